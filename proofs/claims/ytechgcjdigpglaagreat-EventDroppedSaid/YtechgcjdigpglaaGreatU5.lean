/- ref10: nth, period, begin. Conditions: each theorem's own. ref10: right. Conditions: the rule reads, its rows are not too long; a weekly one has no days of the month. ref10: period, begin. Conditions: each theorem's own. -/
import Derived.Test.YtechgcjdigpglaaGreatU2n
import Derived.Test.YtechgcjdigpglaaGreatK5
import Derived.Deep.DeepCutAuto
import Derived.Test.YtechgcjdigpglaaGreatK10
import Derived.Deep.Light
namespace Go.Proofs.YtechgcjdigpglaaGreat
open Go.RowKit Go.ChangeShapes Go.WideShapes Go.Deep
set_option linter.all false

set_option maxHeartbeats 8000000 in
set_option maxRecDepth 100000 in
theorem refNth_any (v : Value) (xs : List DayND) (n : Int) (w : World) (h : Row w 2 rDayN v xs) (hn : xs.length ≤ 100000000) (h0 : 0 ≤ n) (h1 : n < 109938) :
    Calls Tryz.prog 153 #[v, .agg (dayV n)] w fun e w' => e = .returned (.bool (dec (nthP xs n))) ∧ Below w.heap.size w w' := by
  obtain ⟨o, m, c, rfl, hl, -, -, R⟩ := h.open
  obtain ⟨hv, -, m1, m2⟩ := date_valid n h0 h1
  obtain ⟨v1, v2, v3, v4⟩ := hv
  have hlm := lenM_bd (dateY n) (dateM n)
  have CL := Lib.hid (fun W => refLength_any (dateY n) (dateM n) (by omega) (by omega) m1 m2 W)
  have HNP := Lib.hid (show nthP xs n ↔ ∃ x ∈ xs, nthOne (n % 7) (dD n) (lenM (dateY n) (dateM n)) x from Iff.rfl)
  obtain ⟨Y, hY⟩ : ∃ Y, Y = dateY n := ⟨_, rfl⟩
  obtain ⟨M, hM⟩ : ∃ M, M = dateM n := ⟨_, rfl⟩
  obtain ⟨D, hD⟩ : ∃ D, D = dD n := ⟨_, rfl⟩
  obtain ⟨L, hL⟩ : ∃ L, L = lenM Y M := ⟨_, rfl⟩
  obtain ⟨W7, hW⟩ : ∃ W7, W7 = n % 7 := ⟨_, rfl⟩
  unfold dayV
  rw [← hY, ← hM] at CL HNP
  rw [← hL] at CL HNP
  rw [← hD, ← hW] at HNP
  rw [← hY, ← hM, ← hD, ← hW]
  rw [← hY, ← hM, ← hL] at hlm
  rw [← hY, ← hM, ← hL, ← hD] at v4
  rw [← hD] at v3
  have hL31 := hlm.2
  have S := Lib.hid R
  have LN := Lib.hid hl
  have hmm : m ≤ 100000000 := by omega
  have B0 := Lib.hid (belowA (.cells #[.int .i64 n, .int .i64 Y, .int .i64 M, .int .i64 D, .int .i64 W7] 133) (Below.refl w.heap.size w))
  have X0 := Lib.hid (BxM.new w #[.int .i64 n, .int .i64 Y, .int .i64 M, .int .i64 D, .int .i64 W7] 133)
  clear hY hM hD hL hW hlm v1 v2 m1 m2 h R hl hn
  go_enter Tryz.func153, Tryz.ntmps153
  go_wp2_with fail
  (with_reducible refine (CL.out _).mono ?_)
  rintro q w1 ⟨rfl, hb1⟩
  have X1 := Lib.hid (X0.out.below hb1)
  have HB1 := Lib.hid (B0.out.trans (hb1.mono B0.out.size))
  have k1 := X1.out.cell
  clear hb1
  go_wp2_with fail
  go_loopw [6, 7] (fun u k wr => ∃ j : Nat, wr = w1 ∧ u = .int .i64 (j : Nat) ∧ k = .int .i64 (D - 7 * j) ∧ j ≤ 10 ∧ -6 ≤ D - 7 * (j : Int)) (fun _ k _ => (intOf k + 7).toNat)
  case atStart => exact ⟨0, rfl, rfl, by congr 1; omega, by omega, by omega⟩
  case round =>
    obtain ⟨j, hwr, rfl, rfl, hj, hj2⟩ := hrel
    obtain rfl := hwr.symm
    have hw1 : wrap64 (D - 7 * (j : Int) - 7) = D - 7 * (j : Int) - 7 := by unfold wrap64; omega
    by_cases hc : 1 ≤ D - 7 * (j : Int)
    · have d1 := decide_eq_true hc
      go_wp2_with fail
      go_roundw
      case measure => simp [intOf]; omega
      case rel => exact ⟨j + 1, by trivial, by go_num, by go_num, by omega, by omega⟩
    · have d1 := decide_eq_false hc
      have HUP := Lib.hid (show (j : Int) = (D - 1) / 7 + 1 by omega)
      clear hc hw1
      go_wp2_with fail
      obtain ⟨up, hup⟩ : ∃ up : Int, up = (j : Int) := ⟨_, rfl⟩
      have hup0 : 0 ≤ up := by omega
      have hup1 : up ≤ 10 := by omega
      rw [← hup] at HUP ⊢
      clear hup hj hj2 d1
      go_loopw [8, 9] (fun u k wr => ∃ j : Nat, wr = w1 ∧ u = .int .i64 (j : Nat) ∧ k = .int .i64 (D + 7 * j) ∧ j ≤ 10 ∧ D + 7 * (j : Int) ≤ L + 7) (fun _ k _ => (L + 8 - intOf k).toNat)
      case atStart => exact ⟨0, rfl, rfl, by congr 1; omega, by omega, by omega⟩
      case round =>
        obtain ⟨j, hwr, rfl, rfl, hj, hj2⟩ := hrel
        obtain rfl := hwr.symm
        have hw1 : wrap64 (D + 7 * (j : Int) + 7) = D + 7 * (j : Int) + 7 := by unfold wrap64; omega
        by_cases hc : D + 7 * (j : Int) ≤ L
        · have d1 := decide_eq_true hc
          go_wp2_with fail
          go_roundw
          case measure => simp [intOf]; omega
          case rel => exact ⟨j + 1, by trivial, by go_num, by go_num, by omega, by omega⟩
        · have d1 := decide_eq_false hc
          have HDN := Lib.hid (show (j : Int) = (L - D) / 7 + 1 by omega)
          clear hc hw1
          go_wp2_with fail
          obtain ⟨dn, hdn⟩ : ∃ dn : Int, dn = (j : Int) := ⟨_, rfl⟩
          have hdn0 : 0 ≤ dn := by omega
          have hdn1 : dn ≤ 10 := by omega
          rw [← hdn] at HDN ⊢
          have hng : wrap64 (-dn) = -dn := by unfold wrap64; omega
          clear hdn hj hj2 d1
          go_loopw [39] (fun i wr => ∃ k q : Nat, k ≤ m ∧ i = .int .i64 (k : Nat) ∧ wr = w1.drewN q ∧ Hid (∀ (i : Nat) x, i < k → xs[i]? = some x → ¬ nthOne W7 D L x)) (fun i _ => m - (intOf i).toNat)
          case atStart => exact ⟨0, 0, Nat.zero_le _, rfl, rfl, fun i x h => absurd h (Nat.not_lt_zero _)⟩
          case round =>
            obtain ⟨k, q, hk, rfl, rfl, I⟩ := hrel
            by_cases hlt : k < m
            · have hlt' : (k : Int) < (m : Int) := by omega
              obtain ⟨x, a1, cs1, hx, rfl, q1, ⟨rfl, _, _⟩, q0, q2⟩ := S.out.elem HB1.out k hlt
              have e0 := q0 (by decide)
              have e1 := q2 1 (by decide) (by decide)
              simp only [List.getElem?_cons_zero, List.getElem?_cons_succ] at e0 e1
              have HX := Lib.hid hx
              clear q0 q1 q2 hx
              by_cases hone : nthOne W7 D L x
              · have HY := Lib.hid (show nthP xs n from HNP.out.2 ⟨x, List.mem_of_getElem? HX.out, hone⟩)
                unfold nthOne at hone
                obtain ⟨o1, o2⟩ := hone
                have c1 : (x.day == W7) = true := by rw [beq_iff_eq]; exact o1
                by_cases p1 : x.n = 0
                · have c2 : (x.n == 0) = true := by rw [beq_iff_eq]; exact p1
                  clear o1 o2 p1
                  go_wp2_with fail
                  go_quiet (fail)
                  go_wp2_with fail
                  go_ret
                  exact ⟨ret_t HY.out, below_drewN (below_drewN HB1.out _) _⟩
                · have c2 : (x.n == 0) = false := by rw [beq_eq_false_iff_ne]; exact p1
                  by_cases p2 : x.n = up
                  · have c3 : (x.n == up) = true := by rw [beq_iff_eq]; exact p2
                    clear o1 o2 p1 p2
                    go_wp2_with fail
                    go_quiet (fail)
                    go_wp2_with fail
                    go_ret
                    exact ⟨ret_t HY.out, below_drewN (below_drewN HB1.out _) _⟩
                  · have c3 : (x.n == up) = false := by rw [beq_eq_false_iff_ne]; exact p2
                    have c4 : (x.n == -dn) = true := by rw [beq_iff_eq, HDN.out]; rw [HUP.out] at p2; omega
                    clear o1 o2 p1 p2
                    go_wp2_with fail
                    go_quiet (fail)
                    go_wp2_with fail
                    go_ret
                    exact ⟨ret_t HY.out, below_drewN (below_drewN HB1.out _) _⟩
              · have J := Lib.hid (show ∀ (i : Nat) z, i < k + 1 → xs[i]? = some z → ¬ nthOne W7 D L z from fun i z hi hz => by
                  by_cases e : i = k
                  · subst e; rw [HX.out] at hz; cases hz; exact hone
                  · exact I.out i z (by omega) hz)
                unfold nthOne at hone
                by_cases p0 : x.day = W7
                · have c1 : (x.day == W7) = true := by rw [beq_iff_eq]; exact p0
                  have p3 : ¬ (x.n = 0 ∨ x.n = up ∨ x.n = -dn) := fun h => hone ⟨p0, by rw [HUP.out, HDN.out] at h; exact h⟩
                  have c2 : (x.n == 0) = false := by rw [beq_eq_false_iff_ne]; exact fun h => p3 (.inl h)
                  have c3 : (x.n == up) = false := by rw [beq_eq_false_iff_ne]; exact fun h => p3 (.inr (.inl h))
                  have c4 : (x.n == -dn) = false := by rw [beq_eq_false_iff_ne]; exact fun h => p3 (.inr (.inr h))
                  clear p3 p0 hone
                  go_wp2_with fail
                  go_quiet (fail)
                  go_wp2_with fail
                  go_roundw
                  case measure => simp [intOf]; omega
                  case rel => exact ⟨k + 1, _, by omega, by go_num, (by first | rfl | exact (World.drewN_drewN ..)), J.out⟩
                · have c1 : (x.day == W7) = false := by rw [beq_eq_false_iff_ne]; exact p0
                  clear p0 hone
                  go_wp2_with fail
                  go_quiet (fail)
                  go_wp2_with fail
                  go_roundw
                  case measure => simp [intOf]; omega
                  case rel => exact ⟨k + 1, _, by omega, by go_num, (by first | rfl | exact (World.drewN_drewN ..)), J.out⟩
            · obtain rfl : m = k := by omega
              go_wp2_with fail
              go_ret
              refine ⟨ret_f fun h => ?_, below_drewN HB1.out _⟩
              obtain ⟨x, hx, ho⟩ := HNP.out.1 h
              obtain ⟨i, hi, rfl⟩ := List.getElem_of_mem hx
              exact I.out i _ (by have := LN.out; omega) (List.getElem?_eq_getElem hi) ho
end Go.Proofs.YtechgcjdigpglaaGreat
namespace Go.Proofs.YtechgcjdigpglaaGreat
open Go.RowKit Go.ChangeShapes Go.WideShapes Go.Deep
set_option linter.all false

set_option maxHeartbeats 16000000 in
set_option maxRecDepth 100000 in
theorem refRight_any (cr : List Value) (r : RuleD) (s n : Int) (w : World) (h : rRule w cr r) (hf : r.byMonth.length ≤ 10000 ∧ r.byMonthDay.length ≤ 10000 ∧ r.byDay.length ≤ 10000) (hfr : 1 ≤ r.freq ∧ r.freq ≤ 4) (h2 : r.freq = 2 → r.byMonthDay = [])
    (h0 : 0 ≤ n) (h1 : n < 109938) :
    Calls Tryz.prog 103 #[.agg cr.toArray, .agg (dayV s), .agg (dayV n)] w fun e w' => e = .returned (.bool (dec (okP r s n))) ∧ Below w.heap.size w w' := by
  obtain ⟨f1, f2, f3⟩ := hf
  obtain ⟨mv, dv, yv, pv, rfl, -, -, -, -, -, hm, hd, hy, hp⟩ := h
  obtain ⟨om, nm, cm, rfl, lm, -, -, RM⟩ := hm.open
  obtain ⟨od, nd, cd, rfl, ld, -, -, RD⟩ := hd.open
  obtain ⟨oy, ny, cy, rfl, ly, -, -, RY⟩ := hy.open
  obtain ⟨op, np, cp, rfl, -, -, -, -⟩ := hp.open
  obtain ⟨hv, -, m1, m2⟩ := date_valid n h0 h1
  obtain ⟨v1, v2, v3, v4⟩ := hv
  have hlm := lenM_bd (dateY n) (dateM n)
  have CL := Lib.hid (fun W => refLength_any (dateY n) (dateM n) (by omega) (by omega) m1 m2 W)
  have CN := Lib.hid (fun W (hb : Below w.heap.size w W) => refNth_any _ r.byDay n W (RY.later' hb) (by omega) h0 h1)
  have CM := Lib.hid (fun x W (hb : Below w.heap.size w W) => refHas_any _ r.byMonth x W (RM.later' hb) (by omega))
  have CD := Lib.hid (fun x W (hb : Below w.heap.size w W) => refHas_any _ r.byMonthDay x W (RD.later' hb) (by omega))
  have b0 := belowA (.cells #[.int .i64 r.freq, .int .i64 r.interval, .int .i64 r.count, .int .i64 r.until_, .slice om nm cm, .slice od nd cd, .slice oy ny cy, .slice op np cp, .int .i64 r.start] 28) (Below.refl w.heap.size w)
  have B0 := Lib.hid (belowA (.cells (dayV n) 133) (belowA (.cells (dayV s) 133) b0))
  have x1 := BxM.new w #[.int .i64 r.freq, .int .i64 r.interval, .int .i64 r.count, .int .i64 r.until_, .slice om nm cm, .slice od nd cd, .slice oy ny cy, .slice op np cp, .int .i64 r.start] 28
  have x2 := BxM.new (w.alloc (.cells #[.int .i64 r.freq, .int .i64 r.interval, .int .i64 r.count, .int .i64 r.until_, .slice om nm cm, .slice od nd cd, .slice oy ny cy, .slice op np cp, .int .i64 r.start] 28)) (dayV s) 133
  have x3 := BxM.new ((w.alloc (.cells #[.int .i64 r.freq, .int .i64 r.interval, .int .i64 r.count, .int .i64 r.until_, .slice om nm cm, .slice od nd cd, .slice oy ny cy, .slice op np cp, .int .i64 r.start] 28)).alloc (.cells (dayV s) 133)) (dayV n) 133
  rw [show (w.alloc (.cells #[.int .i64 r.freq, .int .i64 r.interval, .int .i64 r.count, .int .i64 r.until_, .slice om nm cm, .slice od nd cd, .slice oy ny cy, .slice op np cp, .int .i64 r.start] 28)).heap.size = w.heap.size + 1 by simp] at x2
  rw [show ((w.alloc (.cells #[.int .i64 r.freq, .int .i64 r.interval, .int .i64 r.count, .int .i64 r.until_, .slice om nm cm, .slice od nd cd, .slice oy ny cy, .slice op np cp, .int .i64 r.start] 28)).alloc (.cells (dayV s) 133)).heap.size = w.heap.size + 1 + 1 by simp] at x3
  have X1 := Lib.hid ((x1.alloc (.cells (dayV s) 133)).alloc (.cells (dayV n) 133))
  have X2 := Lib.hid (x2.alloc (.cells (dayV n) 133))
  have X3 := Lib.hid x3
  have HOK := Lib.hid (show okP r s n ↔ ((nm = 0 ∨ dateM n ∈ r.byMonth) ∧ (nd = 0 ∨ dD n ∈ r.byMonthDay ∨ dD n - lenM (dateY n) (dateM n) - 1 ∈ r.byMonthDay) ∧ (ny = 0 ∨ nthP r.byDay n)) ∧
      ((r.freq = 2 → nd = 0 ∧ ny = 0 → n % 7 = s % 7) ∧ (r.freq = 3 → nd = 0 ∧ ny = 0 → dD n = dD s) ∧ (r.freq = 4 → nd = 0 ∧ ny = 0 → dD n = dD s ∧ (nm ≠ 0 ∨ dateM n = dateM s))) by
    unfold okP rightP usualP plainP
    rw [nil_iff lm, nil_iff ld, nil_iff ly, ne_eq, nil_iff lm])
  have H2 := Lib.hid (show r.freq = 2 → nd = 0 by rw [← nil_iff ld]; exact h2)
  obtain ⟨Y, hY⟩ : ∃ Y, Y = dateY n := ⟨_, rfl⟩
  obtain ⟨M, hM⟩ : ∃ M, M = dateM n := ⟨_, rfl⟩
  obtain ⟨D, hD⟩ : ∃ D, D = dD n := ⟨_, rfl⟩
  obtain ⟨L, hL⟩ : ∃ L, L = lenM Y M := ⟨_, rfl⟩
  obtain ⟨W7, hW⟩ : ∃ W7, W7 = n % 7 := ⟨_, rfl⟩
  obtain ⟨Y', hY'⟩ : ∃ Y, Y = dateY s := ⟨_, rfl⟩
  obtain ⟨M', hM'⟩ : ∃ M, M = dateM s := ⟨_, rfl⟩
  obtain ⟨D', hD'⟩ : ∃ D, D = dD s := ⟨_, rfl⟩
  obtain ⟨W7', hW'⟩ : ∃ W7, W7 = s % 7 := ⟨_, rfl⟩
  have DN := Lib.hid (show dayV n = #[.int .i64 n, .int .i64 Y, .int .i64 M, .int .i64 D, .int .i64 W7] by unfold dayV; rw [hY, hM, hD, hW])
  have DS := Lib.hid (show dayV s = #[.int .i64 s, .int .i64 Y', .int .i64 M', .int .i64 D', .int .i64 W7'] by unfold dayV; rw [hY', hM', hD', hW'])
  rw [← hY, ← hM, ← hD, ← hL] at HOK
  rw [← hW, ← hW', ← hD', ← hM'] at HOK
  rw [← hY, ← hM] at CL
  rw [← hL] at CL
  rw [DN.out] at CN B0 X1 X2 X3 ⊢
  rw [DS.out] at B0 X1 X2 X3 ⊢
  rw [← hY, ← hM, ← hL] at hlm
  rw [← hD] at v3 v4
  rw [← hY, ← hM, ← hL] at v4
  obtain ⟨hl0, hl1⟩ := hlm
  have hw1 : wrap64 (D - L) = D - L := by unfold wrap64; omega
  have hw2 : wrap64 (D - L - 1) = D - L - 1 := by unfold wrap64; omega
  have k1 := X1.out.cell
  have k2 := X2.out.cell
  have k3 := X3.out.cell
  clear hY hM hD hL hW hY' hM' hD' hW' x1 x2 x3 b0 hm hd hy hp RM RD RY lm ld ly h2 f1 f2 f3 v1 v2 v3 v4 m1 m2 DN DS h0 h1 hl0 hl1
  go_enter Tryz.func103, Tryz.ntmps103
  go_wp2_with (first
    | (go_at_call 151; ((with_reducible refine (CL.out _).mono ?_)); rintro q w1 ⟨rfl, hb1⟩; have Y1 := Lib.hid (X1.out.below hb1); have Y2 := Lib.hid (X2.out.below hb1); have Y3 := Lib.hid (X3.out.below hb1); clear k1 k2 k3; have k1 := Y1.out.cell; have k2 := Y2.out.cell; have k3 := Y3.out.cell; have HB1 := Lib.hid (B0.out.trans (hb1.mono B0.out.size)); clear hb1)
    | (go_at_call 153; ((with_reducible refine (CN.out _ HB1.out).mono ?_)); rintro q w2 ⟨rfl, hb2⟩; have HB2 := Lib.hid (HB1.out.trans (hb2.mono HB1.out.size)); clear hb2)
    | (go_at_call 152; ((with_reducible refine (CD.out _ _ HB1.out).mono ?_)); rintro q w3 ⟨rfl, hb3⟩; obtain rfl := hb3.symm)
    | (go_at_call 152; ((with_reducible refine (CM.out _ _ B0.out).mono ?_)); rintro q w3 ⟨rfl, hb3⟩; obtain rfl := hb3.symm))
  all_goals go_ret
  all_goals refine ⟨ret_dec ?_, by first | exact HB2.out | exact HB1.out | exact B0.out⟩
  all_goals rw [HOK.out]
  all_goals have h2 := H2.out
  all_goals clear HOK H2 CL CN CM CD
  all_goals go_light
  all_goals (try simp only [decide_eq_true_eq, true_iff, dec_iff, decf_iff, Int.not_lt, beq_iff_eq, Bool.not_eq_true', Bool.not_eq_false', Bool.false_eq_true, false_iff] at *)
  all_goals first
    | grind
    | trace_state
end Go.Proofs.YtechgcjdigpglaaGreat
namespace Go.Proofs.YtechgcjdigpglaaGreat
open Go.RowKit Go.ChangeShapes Go.WideShapes Go.Deep
set_option linter.all false

set_option maxHeartbeats 8000000 in
set_option maxRecDepth 100000 in
theorem refPeriod_any (cr : List Value) (r : RuleD) (s n : Int) (w : World) (h : rRule w cr r) (hfr : 1 ≤ r.freq ∧ r.freq ≤ 4) (hst : 0 ≤ r.start ∧ r.start ≤ 6) (hs0 : 0 ≤ s) (hs1 : s < 109938) (h0 : 0 ≤ n) (h1 : n < 109938) (hper : 0 ≤ perP r s n) :
    Calls Tryz.prog 101 #[.agg cr.toArray, .agg (dayV s), .agg (dayV n)] w fun e w' => e = .returned (.int .i64 (perP r s n)) ∧ Below w.heap.size w w' := by
  obtain ⟨mv, dv, yv, pv, rfl, -, -, -, -, -, hm, hd, hy, hp⟩ := h
  obtain ⟨om, nm, cm, rfl, -, -, -, -⟩ := hm.open
  obtain ⟨od, nd, cd, rfl, -, -, -, -⟩ := hd.open
  obtain ⟨oy, ny, cy, rfl, -, -, -, -⟩ := hy.open
  obtain ⟨op, np, cp, rfl, -, -, -, -⟩ := hp.open
  clear hm hd hy hp
  obtain ⟨⟨v1, v2, _, _⟩, -, m1, m2⟩ := date_valid n h0 h1
  obtain ⟨⟨u1, u2, _, _⟩, -, m1', m2'⟩ := date_valid s hs0 hs1
  have HP : perP r s n = if r.freq = 1 then n - s else if r.freq = 2 then (n - s + (s % 7 - r.start) % 7) / 7 else if r.freq = 3 then 12 * (dateY n - dateY s) + dateM n - dateM s else dateY n - dateY s := rfl
  obtain ⟨P, hP⟩ : ∃ P, P = perP r s n := ⟨_, rfl⟩
  rw [← hP] at HP hper ⊢
  obtain ⟨Y, hY⟩ : ∃ Y, Y = dateY n := ⟨_, rfl⟩
  obtain ⟨M, hM⟩ : ∃ M, M = dateM n := ⟨_, rfl⟩
  obtain ⟨D, hD⟩ : ∃ D, D = dD n := ⟨_, rfl⟩
  obtain ⟨W7, hW⟩ : ∃ W7, W7 = n % 7 := ⟨_, rfl⟩
  obtain ⟨Y', hY'⟩ : ∃ Y, Y = dateY s := ⟨_, rfl⟩
  obtain ⟨M', hM'⟩ : ∃ M, M = dateM s := ⟨_, rfl⟩
  obtain ⟨D', hD'⟩ : ∃ D, D = dD s := ⟨_, rfl⟩
  obtain ⟨W7', hW'⟩ : ∃ W7, W7 = s % 7 := ⟨_, rfl⟩
  have DN : dayV n = #[.int .i64 n, .int .i64 Y, .int .i64 M, .int .i64 D, .int .i64 W7] := by unfold dayV; rw [hY, hM, hD, hW]
  have DS : dayV s = #[.int .i64 s, .int .i64 Y', .int .i64 M', .int .i64 D', .int .i64 W7'] := by unfold dayV; rw [hY', hM', hD', hW']
  rw [DN, DS]
  rw [← hY, ← hM, ← hY', ← hM', ← hW'] at HP
  rw [← hY] at v1 v2
  rw [← hM] at m1 m2
  rw [← hY'] at u1 u2
  rw [← hM'] at m1' m2'
  have w7 : 0 ≤ W7' ∧ W7' ≤ 6 := by omega
  obtain ⟨w70, w71⟩ := w7
  obtain ⟨st0, st1⟩ := hst
  obtain ⟨f1, f2⟩ := hfr
  have HB := Lib.hid (belowA (.cells #[.int .i64 n, .int .i64 Y, .int .i64 M, .int .i64 D, .int .i64 W7] 133) (belowA (.cells #[.int .i64 s, .int .i64 Y', .int .i64 M', .int .i64 D', .int .i64 W7'] 133) (belowA (.cells #[.int .i64 r.freq, .int .i64 r.interval, .int .i64 r.count, .int .i64 r.until_, .slice om nm cm, .slice od nd cd, .slice oy ny cy, .slice op np cp, .int .i64 r.start] 28) (Below.refl w.heap.size w))))
  clear hP hY hM hD hW hY' hM' hD' hW' DN DS
  by_cases c1 : r.freq = 1
  · rw [if_pos c1] at HP
    have HE := Lib.hid HP
    have e1 : (r.freq == 1) = true := by rw [beq_iff_eq]; exact c1
    have w1 : wrap64 (n - s) = n - s := by unfold wrap64; omega
    clear HP c1
    go_enter Tryz.func101, Tryz.ntmps101
    go_wp2_with fail
    go_ret
    exact ⟨ret_i (by rw [HE.out]), HB.out⟩
  · rw [if_neg c1] at HP
    have e1 : (r.freq == 1) = false := by rw [beq_eq_false_iff_ne]; exact c1
    by_cases c2 : r.freq = 2
    · rw [if_pos c2] at HP
      have e2 : (r.freq == 2) = true := by rw [beq_iff_eq]; exact c2
      obtain ⟨I, hI⟩ : ∃ I, I = (W7' - r.start + 7) % 7 := ⟨_, rfl⟩
      have hI2 : (W7' - r.start) % 7 = I := by omega
      have hI3 : (W7' - r.start + 7).tmod 7 = I := by rw [Int.tmod_eq_emod_of_nonneg (by omega)]; exact hI.symm
      have hI4 : 0 ≤ I ∧ I ≤ 6 := by omega
      obtain ⟨i0, i1⟩ := hI4
      rw [hI2] at HP
      have hq0 : 0 ≤ n - s + I := by omega
      have hq : (n - s + I).tdiv 7 = P := by rw [Int.tdiv_eq_ediv_of_nonneg hq0]; exact HP.symm
      have w1 : wrap64 (n - s) = n - s := by unfold wrap64; omega
      have w2 : wrap64 (W7' - r.start) = W7' - r.start := by unfold wrap64; omega
      have w3 : wrap64 (W7' - r.start + 7) = W7' - r.start + 7 := by unfold wrap64; omega
      have w4 : wrap64 (n - s + I) = n - s + I := by unfold wrap64; omega
      have w5 : wrap64 I = I := by unfold wrap64; omega
      have w6 : wrap64 P = P := by unfold wrap64; omega
      have HW6 := Lib.hid w6
      clear HP c1 c2 hI hI2
      go_enter Tryz.func101, Tryz.ntmps101
      go_wp2_with fail
      go_ret
      exact ⟨ret_i HW6.out, HB.out⟩
    · rw [if_neg c2] at HP
      have e2 : (r.freq == 2) = false := by rw [beq_eq_false_iff_ne]; exact c2
      by_cases c3 : r.freq = 3
      · rw [if_pos c3] at HP
        have e3 : (r.freq == 3) = true := by rw [beq_iff_eq]; exact c3
        have HE := Lib.hid HP
        have w1 : wrap64 (Y - Y') = Y - Y' := by unfold wrap64; omega
        have w2 : wrap64 (12 * (Y - Y')) = 12 * (Y - Y') := by unfold wrap64; omega
        have w3 : wrap64 (12 * (Y - Y') + M) = 12 * (Y - Y') + M := by unfold wrap64; omega
        have w4 : wrap64 (12 * (Y - Y') + M - M') = 12 * (Y - Y') + M - M' := by unfold wrap64; omega
        clear HP c1 c2 c3
        go_enter Tryz.func101, Tryz.ntmps101
        go_wp2_with fail
        go_ret
        exact ⟨ret_i (by rw [HE.out]), HB.out⟩
      · rw [if_neg c3] at HP
        have e3 : (r.freq == 3) = false := by rw [beq_eq_false_iff_ne]; exact c3
        have HE := Lib.hid HP
        have w1 : wrap64 (Y - Y') = Y - Y' := by unfold wrap64; omega
        clear HP c1 c2 c3
        go_enter Tryz.func101, Tryz.ntmps101
        go_wp2_with fail
        go_ret
        exact ⟨ret_i (by rw [HE.out]), HB.out⟩

set_option maxHeartbeats 8000000 in
set_option maxRecDepth 100000 in
theorem refBegin_any (cr : List Value) (r : RuleD) (s : Int) (w : World) (h : rRule w cr r) (hfr : 1 ≤ r.freq ∧ r.freq ≤ 4) (hst : 0 ≤ r.start ∧ r.start ≤ 6) (hs0 : 0 ≤ s) (hs1 : s < 109938) :
    Calls Tryz.prog 99 #[.agg cr.toArray, .agg (dayV s)] w fun e w' => e = .returned (.int .i64 (beginF r s)) ∧ Below w.heap.size w w' := by
  obtain ⟨mv, dv, yv, pv, rfl, -, -, -, -, -, hm, hd, hy, hp⟩ := h
  obtain ⟨om, nm, cm, rfl, -, -, -, -⟩ := hm.open
  obtain ⟨od, nd, cd, rfl, -, -, -, -⟩ := hd.open
  obtain ⟨oy, ny, cy, rfl, -, -, -, -⟩ := hy.open
  obtain ⟨op, np, cp, rfl, -, -, -, -⟩ := hp.open
  clear hm hd hy hp
  obtain ⟨⟨u1, u2, u3, u4⟩, hnum, m1', m2'⟩ := date_valid s hs0 hs1
  have hlm := @lenM_bd (dateY s) (dateM s)
  have CN := Lib.hid (fun W => refNum_yes (dateY s) 1 1 ⟨u1, u2, by omega, by have := @lenM_pos (dateY s) 1 (by omega) (by omega); omega⟩ W)
  have HP : beginF r s = if r.freq = 1 then s else if r.freq = 2 then max 0 (s - (s % 7 - r.start + 7) % 7) else if r.freq = 3 then s - dD s + 1 else numD (dateY s) 1 1 := rfl
  obtain ⟨P, hP⟩ : ∃ P, P = beginF r s := ⟨_, rfl⟩
  rw [← hP] at HP ⊢
  obtain ⟨Y', hY'⟩ : ∃ Y, Y = dateY s := ⟨_, rfl⟩
  obtain ⟨M', hM'⟩ : ∃ M, M = dateM s := ⟨_, rfl⟩
  obtain ⟨D', hD'⟩ : ∃ D, D = dD s := ⟨_, rfl⟩
  obtain ⟨W7', hW'⟩ : ∃ W7, W7 = s % 7 := ⟨_, rfl⟩
  have DS : dayV s = #[.int .i64 s, .int .i64 Y', .int .i64 M', .int .i64 D', .int .i64 W7'] := by unfold dayV; rw [hY', hM', hD', hW']
  rw [DS]
  rw [← hY', ← hD', ← hW'] at HP
  rw [← hY'] at CN
  have hD31 : D' ≤ 31 := by omega
  have w7 : 0 ≤ W7' ∧ W7' ≤ 6 := by omega
  rw [← hD'] at u3
  obtain ⟨w70, w71⟩ := w7
  obtain ⟨st0, st1⟩ := hst
  obtain ⟨f1, f2⟩ := hfr
  have HB := Lib.hid (belowA (.cells #[.int .i64 s, .int .i64 Y', .int .i64 M', .int .i64 D', .int .i64 W7'] 133) (belowA (.cells #[.int .i64 r.freq, .int .i64 r.interval, .int .i64 r.count, .int .i64 r.until_, .slice om nm cm, .slice od nd cd, .slice oy ny cy, .slice op np cp, .int .i64 r.start] 28) (Below.refl w.heap.size w)))
  clear hP hY' hM' hD' hW' DS hlm hnum u4
  by_cases c1 : r.freq = 1
  · rw [if_pos c1] at HP
    have HE := Lib.hid HP
    have e1 : (r.freq == 1) = true := by rw [beq_iff_eq]; exact c1
    clear HP c1
    go_enter Tryz.func99, Tryz.ntmps99
    go_wp2_with fail
    go_ret
    exact ⟨ret_i (by rw [HE.out]), HB.out⟩
  · rw [if_neg c1] at HP
    have e1 : (r.freq == 1) = false := by rw [beq_eq_false_iff_ne]; exact c1
    by_cases c2 : r.freq = 2
    · rw [if_pos c2] at HP
      have e2 : (r.freq == 2) = true := by rw [beq_iff_eq]; exact c2
      obtain ⟨I, hI⟩ : ∃ I, I = (W7' - r.start + 7) % 7 := ⟨_, rfl⟩
      have hI3 : (W7' - r.start + 7).tmod 7 = I := by rw [Int.tmod_eq_emod_of_nonneg (by omega)]; exact hI.symm
      have hI4 : 0 ≤ I ∧ I ≤ 6 := by omega
      obtain ⟨i0, i1⟩ := hI4
      rw [← hI] at HP
      have w2 : wrap64 (W7' - r.start) = W7' - r.start := by unfold wrap64; omega
      have w3 : wrap64 (W7' - r.start + 7) = W7' - r.start + 7 := by unfold wrap64; omega
      have w5 : wrap64 I = I := by unfold wrap64; omega
      have w4 : wrap64 (s - I) = s - I := by unfold wrap64; omega
      have hmx : (if (0 : Int) < s - I then s - I else 0) = P := by rw [HP]; split <;> omega
      have HE := Lib.hid (show P = max 0 (s - I) from HP)
      clear HP c1 c2 hI
      go_enter Tryz.func99, Tryz.ntmps99
      go_wp2_with fail
      all_goals go_ret
      all_goals refine ⟨?_, HB.out⟩
      all_goals first | rfl | exact ret_i (by have := HE.out; omega) | trace_state
    · rw [if_neg c2] at HP
      have e2 : (r.freq == 2) = false := by rw [beq_eq_false_iff_ne]; exact c2
      by_cases c3 : r.freq = 3
      · rw [if_pos c3] at HP
        have e3 : (r.freq == 3) = true := by rw [beq_iff_eq]; exact c3
        have HE := Lib.hid HP
        have w1 : wrap64 (s - D') = s - D' := by unfold wrap64; omega
        have w2 : wrap64 (s - D' + 1) = s - D' + 1 := by unfold wrap64; omega
        clear HP c1 c2 c3
        go_enter Tryz.func99, Tryz.ntmps99
        go_wp2_with fail
        go_ret
        exact ⟨ret_i (by rw [HE.out]), HB.out⟩
      · rw [if_neg c3] at HP
        have e3 : (r.freq == 3) = false := by rw [beq_eq_false_iff_ne]; exact c3
        rw [← HP] at CN
        clear HP c1 c2 c3
        go_enter Tryz.func99, Tryz.ntmps99
        go_wp2_with fail
        (with_reducible refine (CN.out _).mono ?_)
        rintro q w1 ⟨rfl, hb1⟩
        have HB1 := Lib.hid (HB.out.trans (hb1.mono HB.out.size))
        clear hb1
        go_wp2_with fail
        go_ret
        exact ⟨rfl, HB1.out⟩
end Go.Proofs.YtechgcjdigpglaaGreat
