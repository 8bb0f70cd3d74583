/- ref11: stamp, in, row. Condition: at most ten thousand places. ref11.May. Conditions: the event reads, its rows are not too long. -/
import Derived.Test.YtechgcjdigpglaaGreatU2n
import Derived.Test.YtechgcjdigpglaaGreatQ2
import Derived.Test.YtechgcjdigpglaaGreatQ3
import Derived.Test.YtechgcjdigpglaaGreatR10
import Derived.Deep.Light
namespace Go.Proofs.YtechgcjdigpglaaGreat
open Go.RowKit Go.ChangeShapes Go.WideShapes Go.Deep
set_option linter.all false

theorem refStamp_any (n : Int) (w : World) : Calls Tryz.prog 46 #[.int .i64 n] w fun e w' => e = .returned (.bool (dec (startOk n))) ∧ w' = w := by
  by_cases h1 : 0 ≤ n
  · have d1 := decide_eq_true h1
    by_cases h2 : n < 158310720
    · have d2 := decide_eq_true h2
      rw [dec_t (show startOk n from ⟨h1, h2⟩)]
      go_enter Tryz.func46, Tryz.ntmps46
      go_wp2
      go_ret
      exact ⟨rfl, rfl⟩
    · have d2 := decide_eq_false h2
      rw [dec_f (show ¬ startOk n from fun h => h2 h.2)]
      go_enter Tryz.func46, Tryz.ntmps46
      go_wp2
      go_ret
      exact ⟨rfl, rfl⟩
  · have d1 := decide_eq_false h1
    rw [dec_f (show ¬ startOk n from fun h => h1 h.1)]
    go_enter Tryz.func46, Tryz.ntmps46
    go_wp2
    go_ret
    exact ⟨rfl, rfl⟩


theorem refIn_any (v : Value) (xs : List Int) (x : Int) (w : World) (h : Row w 1 (rI .i64) v xs) (hn : xs.length ≤ 100000000) :
    Calls Tryz.prog 58 #[v, .int .i64 x] w fun e w' => e = .returned (.bool (dec (x ∈ xs))) ∧ w' = w := by
  obtain ⟨o, n, c, rfl, hl, -, -, R⟩ := h.open
  have S := Lib.hid R
  have L := Lib.hid hl
  have hnn : n ≤ 100000000 := by omega
  clear h R hl hn
  go_enter Tryz.func58, Tryz.ntmps58
  go_wp2_with fail
  go_loopw [8] (fun b wr => ∃ k : Nat, k ≤ n ∧ b = .int .i64 (k : Nat) ∧ wr = w ∧ Hid (∀ (i : Nat) z, i < k → xs[i]? = some z → z ≠ x)) (fun b _ => n - (intOf b).toNat)
  case atStart => exact ⟨0, Nat.zero_le _, rfl, rfl, fun i x h => absurd h (Nat.not_lt_zero _)⟩
  case round =>
    obtain ⟨k, hk, rfl, rfl, I⟩ := hrel
    by_cases hlt : k < n
    · have hlt' : (k : Int) < (n : Int) := by omega
      obtain ⟨y, a1, hx, rfl, _, e0⟩ := S.out.intAt (Below.refl _ _) k hlt
      have HX := Lib.hid hx
      clear hx
      by_cases hxy : y = x
      · have b1 : (y == x) = true := by simpa using hxy
        have HY := Lib.hid hxy
        clear hxy
        go_wp2_with fail
        go_ret
        exact ⟨ret_t (by have := List.mem_of_getElem? HX.out; rw [HY.out] at this; exact this), rfl⟩
      · have b1 : (y == x) = false := by simpa using hxy
        have J := Lib.hid (show ∀ (i : Nat) z, i < k + 1 → xs[i]? = some z → z ≠ x from fun i z hi hz => by
          by_cases e : i = k
          · subst e; rw [HX.out] at hz; cases hz; exact hxy
          · exact I.out i z (by omega) hz)
        clear hxy
        go_wp2_with fail
        go_roundw
        case measure => simp [intOf]; omega
        case rel => exact ⟨k + 1, by omega, by go_num, by trivial, J.out⟩
    · obtain rfl : n = k := by omega
      go_wp2_with fail
      go_ret
      exact ⟨ret_f fun hm => by
        obtain ⟨i, hi, hx⟩ := List.getElem_of_mem hm
        exact I.out i _ (by have := L.out; omega) (List.getElem?_eq_getElem hi) hx, rfl⟩


set_option maxHeartbeats 8000000 in
set_option maxRecDepth 100000 in
theorem refRowE_any (v : Value) (xs : List Int) (w : World) (h : Row w 1 (rI .i64) v xs) (hn : xs.length ≤ 10000) :
    Calls Tryz.prog 49 #[v] w fun e w' => e = .returned (.bool (dec (rowE xs))) ∧ ∃ q, w' = w.drewN q := by
  obtain ⟨o, n, c, rfl, hl, -, -, R⟩ := h.open
  have S := Lib.hid R
  have L := Lib.hid hl
  have ST := Lib.hid (fun n W => refStamp_any n W)
  have hnn : n ≤ 10000 := by omega
  clear h R hl hn
  go_enter Tryz.func49, Tryz.ntmps49
  go_wp2_with fail
  go_loopw [6] (fun b wr => ∃ k : Nat, k ≤ n ∧ b = .int .i64 (k : Nat) ∧ Hid (∃ q, wr = w.drewN q) ∧ Hid (∀ (i : Nat) x, i < k → xs[i]? = some x → startOk x) ∧ Hid (risesTo xs k)) (fun b _ => n - (intOf b).toNat)
  case atStart => exact ⟨0, Nat.zero_le _, rfl, Lib.hid ⟨0, rfl⟩, fun i x h => absurd h (Nat.not_lt_zero _), fun i a b h => absurd h (by omega)⟩
  case round =>
    obtain ⟨k, hk, rfl, HQ, I1, I2⟩ := hrel
    obtain ⟨wl, rfl⟩ : ∃ x, x = wr := ⟨_, rfl⟩
    have HBL := Lib.hid (show Below w.heap.size w wl from by obtain ⟨q, rfl⟩ := HQ.out; exact below_drewN (Below.refl _ _) q)
    have HQN := Lib.hid (show ∀ m, ∃ q, wl.drewN m = w.drewN q from fun m => by obtain ⟨q, rfl⟩ := HQ.out; exact ⟨_, World.drewN_drewN ..⟩)
    by_cases hlt : k < n
    · have hlt' : (k : Int) < (n : Int) := by omega
      obtain ⟨x, a1, hx, rfl, _, e0⟩ := S.out.intAt HBL.out k hlt
      have HX := Lib.hid hx
      clear hx
      have J1 := Lib.hid (fun hs : startOk x => show ∀ (i : Nat) z, i < k + 1 → xs[i]? = some z → startOk z from fun i z hi hz => by
        by_cases e : i = k
        · subst e; rw [HX.out] at hz; cases hz; exact hs
        · exact I1.out i z (by omega) hz)
      have HN1 := Lib.hid (fun hs : ¬ startOk x => show ¬ rowE xs from fun h => hs (h.1 x (List.mem_of_getElem? HX.out)))
      by_cases hk0 : k = 0
      · have J2 := Lib.hid (fun _ : True => show risesTo xs (k + 1) from fun i a b hi => absurd hi (by omega))
        have HN := Lib.hid (fun hs : ¬ startOk x ∨ (1 : Int) < 0 => show ¬ rowE xs from hs.elim HN1.out fun h => by omega)
        have d4 : ¬ (0 : Int) < (k : Int) := by omega
        have d5 : decide ((0 : Int) < (k : Int)) = false := decide_eq_false d4
        have d6 : decide (0 < k) = false := decide_eq_false (by omega)
        have d7 : ¬ 0 < k := by omega
        clear hk0
        go_wp2_with fail
        refine wp_region_quiet_lit (by kernel_rfl) (by kernel_rfl) ?_
        repeat (any_goals (first | go_big_quiet_step ((go_at_call 46; exact Calls.quiet_of_same (ST.out _ _))) | quiet_step ((go_at_call 46; exact Calls.quiet_of_same (ST.out _ _))) | (refine wpQuiet_step (fun K hK => ?_); go_simp; split <;> (refine hK _ ?_; clear hK K))))
        all_goals (refine wpQuiet_nil ?_; intro _ hw'; obtain ⟨nq, hw''⟩ := hw'; subst hw'')
        all_goals go_wp2_with fail
        all_goals simp only [dec_iff, decf_iff, Bool.not_eq_true', Bool.not_eq_false', Int.not_le, Int.not_lt] at *
        all_goals first
          | (go_ret
             exact ⟨ret_f (HN.out (by first | (left; assumption) | (right; omega))), HQN.out _⟩)
          | (go_roundw
             case measure => simp [intOf]; omega
             case rel => exact ⟨k + 1, by omega, by go_num, Lib.hid (HQN.out _), J1.out (by assumption), J2.out (by first | trivial | omega)⟩)
      · have hk1 : 1 ≤ k := by omega
        have hk2 : (0 : Int) < (k : Int) := by omega
        obtain ⟨y, a2, hy, ha, _, f0⟩ := S.out.intAt HBL.out (k - 1) (by omega)
        cases ha
        have HY := Lib.hid hy
        have hk3 : (0 : Int) ≤ (k : Int) - 1 := by omega
        have hk4 : (k : Int) - 1 < (n : Int) := by omega
        have hk6 : (1 : Int) ≤ (k : Int) := by omega
        have hk5 : ((k : Int) - 1).toNat = k - 1 := by omega
        have hw5 : IntKind.i64.wrap ((k : Int) - 1) = (k : Int) - 1 := by rw [IntKind.wrap_i64]; omega
        have d6 : decide (0 < k) = true := decide_eq_true (by omega)
        have HN := Lib.hid (fun hs : ¬ startOk x ∨ x ≤ y => show ¬ rowE xs from hs.elim HN1.out fun hxy h => by
          have := h.2.1 (k - 1) y x HY.out (by rw [show k - 1 + 1 = k by omega]; exact HX.out)
          omega)
        have J2 := Lib.hid (fun hxy : y < x => show risesTo xs (k + 1) from fun i a b hi ha hb => by
          by_cases e : i + 1 = k
          · obtain rfl : i = k - 1 := by omega
            rw [HY.out] at ha; rw [show k - 1 + 1 = k by omega, HX.out] at hb; cases ha; cases hb; omega
          · exact I2.out i a b (by omega) ha hb)
        clear hy hk0
        go_wp2_with fail
        refine wp_region_quiet_lit (by kernel_rfl) (by kernel_rfl) ?_
        repeat (any_goals (first | go_big_quiet_step ((go_at_call 46; exact Calls.quiet_of_same (ST.out _ _))) | quiet_step ((go_at_call 46; exact Calls.quiet_of_same (ST.out _ _))) | (refine wpQuiet_step (fun K hK => ?_); go_simp; split <;> (refine hK _ ?_; clear hK K))))
        all_goals (refine wpQuiet_nil ?_; intro _ hw'; obtain ⟨nq, hw''⟩ := hw'; subst hw'')
        all_goals go_wp2_with fail
        all_goals simp only [dec_iff, decf_iff, Bool.not_eq_true', Bool.not_eq_false', Int.not_le, Int.not_lt] at *
        all_goals first
          | (go_ret
             exact ⟨ret_f (HN.out (by first | (left; assumption) | (right; omega))), HQN.out _⟩)
          | (go_roundw
             case measure => simp [intOf]; omega
             case rel => exact ⟨k + 1, by omega, by go_num, Lib.hid (HQN.out _), J1.out (by assumption), J2.out (by first | trivial | omega)⟩)
    · obtain rfl : n = k := by omega
      have HALL := Lib.hid (show ∀ x ∈ xs, startOk x from fun x hx => by
        obtain ⟨i, hi, rfl⟩ := List.getElem_of_mem hx
        exact I1.out i _ (by have := L.out; omega) (List.getElem?_eq_getElem hi))
      have HR := Lib.hid (show rises xs from fun i a b ha hb => I2.out i a b (by
        have := (List.getElem?_eq_some_iff.1 hb).1
        have := L.out
        omega) ha hb)
      by_cases h5 : n ≤ 50
      · have d1 : decide ((n : Int) ≤ 50) = true := decide_eq_true (by omega)
        have d2 : (n : Int) ≤ 50 := by omega
        go_wp2_with fail
        go_ret
        exact ⟨ret_t ⟨HALL.out, HR.out, by rw [L.out]; exact h5⟩, HQ.out⟩
      · have d1 : decide ((n : Int) ≤ 50) = false := decide_eq_false (by omega)
        have d2 : ¬ (n : Int) ≤ 50 := by omega
        go_wp2_with fail
        go_ret
        exact ⟨ret_f fun h => h5 (by have := h.2.2; rw [L.out] at this; exact this), HQ.out⟩
end Go.Proofs.YtechgcjdigpglaaGreat
namespace Go.Proofs.YtechgcjdigpglaaGreat
open Go.RowKit Go.ChangeShapes Go.WideShapes Go.Deep
set_option linter.all false

set_option maxHeartbeats 40000000 in
set_option maxRecDepth 100000 in
theorem refEMay_any (cs : List Value) (e : EventD) (w : World) (h : rEvent w cs e) (hf : fewE e) :
    Calls Tryz.prog 14 #[.agg cs.toArray] w fun r w' => r = .returned (.bool (dec (mayE e))) ∧ Below w.heap.size w w' := by
  obtain ⟨om, nm, cm, od, nd, cd, oy, ny, cy, op, np, cp, oe, ne, ce, ol, nl, cl, oc, nc, cc, rfl, SR, l1, l2, l3, R1, R2, R3, -, -⟩ := h.opn
  have L1 := Lib.hid l1; have L2 := Lib.hid l2; have L3 := Lib.hid l3
  have hnc : nc ≤ 10000 := by have := hf.c; omega
  have HB0 := Lib.hid (show Below w.heap.size w (w.alloc (.cells #[.int .i64 e.start, .int .i64 e.long, .bool e.world, .bool e.again, .int .i64 e.rule.freq, .int .i64 e.rule.interval, .int .i64 e.rule.count, .int .i64 e.rule.until_, .slice om nm cm, .slice od nd cd, .slice oy ny cy, .slice op np cp, .int .i64 e.rule.start, .slice oe ne ce, .slice ol nl cl, .slice oc nc cc] 32)) from belowA _ (Below.refl _ _))
  have XE0 := Lib.hid (BxM.new w #[.int .i64 e.start, .int .i64 e.long, .bool e.world, .bool e.again, .int .i64 e.rule.freq, .int .i64 e.rule.interval, .int .i64 e.rule.count, .int .i64 e.rule.until_, .slice om nm cm, .slice od nd cd, .slice oy ny cy, .slice op np cp, .int .i64 e.rule.start, .slice oe ne ce, .slice ol nl cl, .slice oc nc cc] 32)
  have ST := Lib.hid (fun n W => refStamp_any n W)
  have CS := Lib.hid (fun (W : World) (hb : Below w.heap.size w W) => rule_any _ _ _ _ W (SR.later hb) (nilR_reads W))
  have CM := Lib.hid (fun (W : World) (hb : Below w.heap.size w W) => refMay_any _ _ W (SR.later hb) hf.r)
  have C1 := Lib.hid (fun (W : World) (hb : Below w.heap.size w W) => refRowE_any _ _ W (R1.later' hb) hf.x)
  have C2 := Lib.hid (fun (W : World) (hb : Below w.heap.size w W) => refRowE_any _ _ W (R2.later' hb) hf.p)
  have RC := Lib.hid R3
  have kE := XE0.out.cell
  have HME := Lib.hid (show mayE e ↔ (startOk e.start ∧ 1 ≤ e.long ∧ e.long ≤ 10080 ∧ (e.again = false → e.rule = nilR ∧ ne = 0 ∧ nl = 0 ∧ nc = 0) ∧ (e.again = true → e.world = false ∧ mayR e.rule ∧ rowE e.ex ∧ rowE e.plus ∧ changesE e.changes)) by
    unfold mayE; rw [l1, l2, l3])
  have HCH := Lib.hid (show changesE e.changes → nc ≤ 50 from fun h => by have := h.2.2.2; simp at this; omega)
  obtain ⟨ag, hag⟩ : ∃ b, b = e.again := ⟨_, rfl⟩
  obtain ⟨wd, hwd⟩ : ∃ b, b = e.world := ⟨_, rfl⟩
  rw [← hag, ← hwd] at HME HB0 XE0 kE ⊢
  clear R1 R2 R3 SR l1 l2 l3 hf h hag hwd
  cases ag with
  | false =>
    go_enter Tryz.func14, Tryz.ntmps14
    go_wp2_with (first
  | (go_at_call 46; ((with_reducible refine (ST.out _ _).mono ?_)); rintro q w1 ⟨rfl, hb1⟩; obtain rfl := hb1.symm)
  | (go_at_call 47; ((with_reducible refine (CS.out _ HB0.out).mono ?_)); rintro q w1 ⟨rfl, hb1⟩; have XE1 := Lib.hid (XE0.out.below hb1); clear kE; have kE := XE1.out.cell; have HB1 := Lib.hid (HB0.out.trans (hb1.mono HB0.out.size)); clear hb1)
  | (go_at_call 48; ((with_reducible refine (CM.out _ HB0.out).mono ?_)); rintro q w1 ⟨rfl, hb1⟩; have XE1 := Lib.hid (XE0.out.below hb1); clear kE; have kE := XE1.out.cell; have HB1 := Lib.hid (HB0.out.trans (hb1.mono HB0.out.size)); clear hb1)
  | (go_at_call 49; ((with_reducible refine (C1.out _ HB1.out).mono ?_)); rintro q w2 ⟨rfl, m2, hw2⟩; have hb2 := (show Below w1.heap.size w1 w2 from hw2 ▸ below_drewN (Below.refl _ _) m2); clear hw2; have XE2 := Lib.hid (XE1.out.below hb2); clear kE; have kE := XE2.out.cell; have HB2 := Lib.hid (HB1.out.trans (hb2.mono HB1.out.size)); clear hb2)
  | (go_at_call 49; ((with_reducible refine (C2.out _ HB2.out).mono ?_)); rintro q w3 ⟨rfl, m3, hw3⟩; have hb3 := (show Below w2.heap.size w2 w3 from hw3 ▸ below_drewN (Below.refl _ _) m3); clear hw3; have XE3 := Lib.hid (XE2.out.below hb3); clear kE; have kE := XE3.out.cell; have HB3 := Lib.hid (HB2.out.trans (hb3.mono HB2.out.size)); clear hb3))
    all_goals (go_ret; refine ⟨ret_dec ?_, by first | exact HB1.out | exact HB0.out⟩; rw [HME.out]; clear HME HCH CS CM C1 C2 RC; go_light; (try simp only [decide_eq_true_eq, true_iff, dec_iff, decf_iff, Int.not_lt, beq_iff_eq, Bool.not_eq_true', Bool.not_eq_false', Bool.false_eq_true, false_iff] at *); grind)
  | true =>
  cases wd with
  | true =>
    go_enter Tryz.func14, Tryz.ntmps14
    go_wp2_with (first
  | (go_at_call 46; ((with_reducible refine (ST.out _ _).mono ?_)); rintro q w1 ⟨rfl, hb1⟩; obtain rfl := hb1.symm)
  | (go_at_call 47; ((with_reducible refine (CS.out _ HB0.out).mono ?_)); rintro q w1 ⟨rfl, hb1⟩; have XE1 := Lib.hid (XE0.out.below hb1); clear kE; have kE := XE1.out.cell; have HB1 := Lib.hid (HB0.out.trans (hb1.mono HB0.out.size)); clear hb1)
  | (go_at_call 48; ((with_reducible refine (CM.out _ HB0.out).mono ?_)); rintro q w1 ⟨rfl, hb1⟩; have XE1 := Lib.hid (XE0.out.below hb1); clear kE; have kE := XE1.out.cell; have HB1 := Lib.hid (HB0.out.trans (hb1.mono HB0.out.size)); clear hb1)
  | (go_at_call 49; ((with_reducible refine (C1.out _ HB1.out).mono ?_)); rintro q w2 ⟨rfl, m2, hw2⟩; have hb2 := (show Below w1.heap.size w1 w2 from hw2 ▸ below_drewN (Below.refl _ _) m2); clear hw2; have XE2 := Lib.hid (XE1.out.below hb2); clear kE; have kE := XE2.out.cell; have HB2 := Lib.hid (HB1.out.trans (hb2.mono HB1.out.size)); clear hb2)
  | (go_at_call 49; ((with_reducible refine (C2.out _ HB2.out).mono ?_)); rintro q w3 ⟨rfl, m3, hw3⟩; have hb3 := (show Below w2.heap.size w2 w3 from hw3 ▸ below_drewN (Below.refl _ _) m3); clear hw3; have XE3 := Lib.hid (XE2.out.below hb3); clear kE; have kE := XE3.out.cell; have HB3 := Lib.hid (HB2.out.trans (hb3.mono HB2.out.size)); clear hb3))
    all_goals (go_ret; refine ⟨ret_f fun h => ?_, by first | exact HB1.out | exact HB0.out⟩; have := (HME.out.1 h).2.2.2.2 (by trivial); first | (simp at this) | omega)
  | false =>
  by_cases hpre : startOk e.start ∧ 1 ≤ e.long ∧ e.long ≤ 10080 ∧ mayR e.rule ∧ rowE e.ex ∧ rowE e.plus ∧ nc ≤ 50
  · obtain ⟨g1, g2, g3, g4, g5, g6, g7⟩ := hpre
    have HPRE := Lib.hid (show changesE e.changes ↔ mayE e by rw [HME.out]; exact ⟨fun h => ⟨g1, g2, g3, (fun h => by cases h), fun _ => ⟨rfl, g4, g5, g6, h⟩⟩, fun h => (h.2.2.2.2 (by trivial)).2.2.2.2⟩)
    have ST1 := Lib.hid (fun W => c_t (ST.out e.start W) g1)
    have CM1 := Lib.hid (fun W hb => c_t (CM.out W hb) g4)
    have C11 := Lib.hid (fun W hb => c_t (C1.out W hb) g5)
    have C21 := Lib.hid (fun W hb => c_t (C2.out W hb) g6)
    have d1 : decide ((50 : Int) < (nc : Int)) = false := decide_eq_false (by omega)
    clear g1 g4 g5 g6 HME HCH CM C1 C2 CS
    go_enter Tryz.func14, Tryz.ntmps14
    go_wp2_with (first
  | (go_at_call 46; ((with_reducible refine (ST1.out _).mono ?_)); rintro q w1 ⟨rfl, hb1⟩; obtain rfl := hb1.symm)
  | (go_at_call 47; ((with_reducible refine (CS.out _ HB0.out).mono ?_)); rintro q w1 ⟨rfl, hb1⟩; have XE1 := Lib.hid (XE0.out.below hb1); clear kE; have kE := XE1.out.cell; have HB1 := Lib.hid (HB0.out.trans (hb1.mono HB0.out.size)); clear hb1)
  | (go_at_call 48; ((with_reducible refine (CM1.out _ HB0.out).mono ?_)); rintro q w1 ⟨rfl, hb1⟩; have XE1 := Lib.hid (XE0.out.below hb1); clear kE; have kE := XE1.out.cell; have HB1 := Lib.hid (HB0.out.trans (hb1.mono HB0.out.size)); clear hb1)
  | (go_at_call 49; ((with_reducible refine (C11.out _ HB1.out).mono ?_)); rintro q w2 ⟨rfl, m2, hw2⟩; have hb2 := (show Below w1.heap.size w1 w2 from hw2 ▸ below_drewN (Below.refl _ _) m2); clear hw2; have XE2 := Lib.hid (XE1.out.below hb2); clear kE; have kE := XE2.out.cell; have HB2 := Lib.hid (HB1.out.trans (hb2.mono HB1.out.size)); clear hb2)
  | (go_at_call 49; ((with_reducible refine (C21.out _ HB2.out).mono ?_)); rintro q w3 ⟨rfl, m3, hw3⟩; have hb3 := (show Below w2.heap.size w2 w3 from hw3 ▸ below_drewN (Below.refl _ _) m3); clear hw3; have XE3 := Lib.hid (XE2.out.below hb3); clear kE; have kE := XE3.out.cell; have HB3 := Lib.hid (HB2.out.trans (hb3.mono HB2.out.size)); clear hb3))
    go_loopw [73] (fun b wr => ∃ k : Nat, k ≤ nc ∧ b = .int .i64 (k : Nat) ∧ Hid (Below w.heap.size w wr) ∧ Hid (BxM w.heap.size #[.int .i64 e.start, .int .i64 e.long, .bool false, .bool true, .int .i64 e.rule.freq, .int .i64 e.rule.interval, .int .i64 e.rule.count, .int .i64 e.rule.until_, .slice om nm cm, .slice od nd cd, .slice oy ny cy, .slice op np cp, .int .i64 e.rule.start, .slice oe ne ce, .slice ol nl cl, .slice oc nc cc] 32 wr) ∧ Hid (∀ (i : Nat) c, i < k → e.changes[i]? = some c → startOk c.at_ ∧ changeOne c) ∧ Hid (risesTo (e.changes.map (·.at_)) k)) (fun b _ => nc - (intOf b).toNat)
    case atStart => exact ⟨0, Nat.zero_le _, rfl, HB3, XE3, fun i c h => absurd h (Nat.not_lt_zero _), fun i a b h => absurd h (by omega)⟩
    case round =>
      clear kE
      obtain ⟨k, hk, rfl, HB, XE, I1, I2⟩ := hrel
      obtain ⟨wl, rfl⟩ : ∃ x, x = wr := ⟨_, rfl⟩
      have kE := XE.out.cell
      by_cases hlt : k < nc
      · have hlt' : (k : Int) < (nc : Int) := by omega
        obtain ⟨x, a1, cs1, hx, rfl, q1, ⟨rfl, wfx, _, _⟩, q0, q2⟩ := RC.out.elem HB.out k hlt
        have e0 := q0 (by decide)
        have e1 := q2 1 (by decide) (by decide)
        have e2 := q2 2 (by decide) (by decide)
        simp only [List.getElem?_cons_zero, List.getElem?_cons_succ] at e0 e1 e2
        have HX := Lib.hid hx
        clear q0 q1 q2 hx wfx
        have HBn := Lib.hid (show Below w.heap.size w (wl.alloc (.cells #[.int .i64 x.at_, .int .i64 x.start, .int .i64 x.long] 44)) from HB.out.alloc HB.out.size _)
        have XEn := Lib.hid (XE.out.alloc (.cells #[.int .i64 x.at_, .int .i64 x.start, .int .i64 x.long] 44))
        have XCn := Lib.hid (BxM.new wl #[.int .i64 x.at_, .int .i64 x.start, .int .i64 x.long] 44)
        have J1 := Lib.hid (fun (hs : startOk x.at_) (hs2 : startOk x.start) (h0 : 0 ≤ x.long) (h1 : x.long ≤ 10080) => show ∀ (i : Nat) c, i < k + 1 → e.changes[i]? = some c → startOk c.at_ ∧ changeOne c from fun i z hi hz => by
          by_cases e : i = k
          · subst e; rw [HX.out] at hz; cases hz; exact ⟨hs, hs2, h0, h1⟩
          · exact I1.out i z (by omega) hz)
        have HN1 := Lib.hid (fun (hm : mayE e) => show startOk x.at_ ∧ startOk x.start ∧ 0 ≤ x.long ∧ x.long ≤ 10080 from by
          have hc := HPRE.out.2 hm
          have h1 := hc.1 x (List.mem_of_getElem? HX.out)
          exact ⟨hc.2.1 _ (List.mem_map.2 ⟨x, List.mem_of_getElem? HX.out, rfl⟩), h1.1, h1.2.1, h1.2.2⟩)
        go_upto_region 11 with fail
        obtain ⟨wn, hwn⟩ : ∃ y, y = wl.alloc (.cells #[.int .i64 x.at_, .int .i64 x.start, .int .i64 x.long] 44) := ⟨_, rfl⟩
        obtain ⟨bc, hbc⟩ : ∃ y, y = wl.heap.size := ⟨_, rfl⟩
        rw [← hwn] at HBn XEn XCn
        rw [← hbc] at XCn
        rw [← hwn, ← hbc]
        clear hwn hbc kE e0 e1 e2
        have kEn := XEn.out.cell
        have kCn := XCn.out.cell
        by_cases hk0 : k = 0
        · have J2 := Lib.hid (fun _ : True => show risesTo (e.changes.map (·.at_)) (k + 1) from fun i a b hi => absurd hi (by omega))
          have HN := Lib.hid (fun (hm : mayE e) (hs : ¬ startOk x.at_ ∨ ¬ startOk x.start ∨ x.long < 0 ∨ 10080 < x.long ∨ (1 : Int) < 0) => show False from by
            obtain ⟨h1, h2, h3, h4⟩ := HN1.out hm
            rcases hs with h | h | h | h | h
            · exact h h1
            · exact h h2
            all_goals omega)
          have d4 : ¬ (0 : Int) < (k : Int) := by omega
          have d5 : decide ((0 : Int) < (k : Int)) = false := decide_eq_false d4
          have d6 : decide (0 < k) = false := decide_eq_false (by omega)
          have d7 : ¬ 0 < k := by omega
          clear hk0
          refine wp_region_quiet_lit (by kernel_rfl) (by kernel_rfl) ?_
          repeat (any_goals (first | go_big_quiet_step ((go_at_call 46; exact Calls.quiet_of_same (ST.out _ _))) | quiet_step ((go_at_call 46; exact Calls.quiet_of_same (ST.out _ _))) | (refine wpQuiet_step (fun K hK => ?_); go_simp; split <;> (refine hK _ ?_; clear hK K))))
          all_goals (refine wpQuiet_nil ?_; intro _ hw'; obtain ⟨nq, hw''⟩ := hw'; subst hw'')
          all_goals go_wp2_with fail
          all_goals simp only [dec_iff, decf_iff, Bool.not_eq_true', Bool.not_eq_false', Int.not_le, Int.not_lt] at *
          all_goals first
            | (go_ret
               exact ⟨ret_f fun hm => HN.out hm (by first | (left; assumption) | (right; left; assumption) | (right; right; left; omega) | (right; right; right; left; omega) | (right; right; right; right; omega)), below_drewN HBn.out _⟩)
            | (go_roundw
               case measure => simp [intOf]; omega
               case rel => exact ⟨k + 1, by omega, by go_num, Lib.hid (below_drewN HBn.out _), Lib.hid (XEn.out.below (below_drewN (Below.refl _ _) _)), J1.out (by assumption) (by assumption) (by omega) (by omega), J2.out (by first | trivial | omega)⟩)
        · have hk1 : 1 ≤ k := by omega
          have hk2 : (0 : Int) < (k : Int) := by omega
          obtain ⟨y, a2, cs2, hy, ha, _, ⟨rfl, _, _, _⟩, f0, _⟩ := RC.out.elem HBn.out (k - 1) (by omega)
          cases ha
          have f0 := f0 (by decide)
          simp only [List.getElem?_cons_zero, List.getElem?_cons_succ] at f0
          have HY := Lib.hid hy
          have hk3 : (0 : Int) ≤ (k : Int) - 1 := by omega
          have hk4 : (k : Int) - 1 < (nc : Int) := by omega
          have hk6 : (1 : Int) ≤ (k : Int) := by omega
          have hk5 : ((k : Int) - 1).toNat = k - 1 := by omega
          have hw5 : IntKind.i64.wrap ((k : Int) - 1) = (k : Int) - 1 := by rw [IntKind.wrap_i64]; omega
          have d6 : decide (0 < k) = true := decide_eq_true (by omega)
          have hmx : (e.changes.map (·.at_))[k]? = some x.at_ := by rw [List.getElem?_map, HX.out]; rfl
          have hmy : (e.changes.map (·.at_))[k - 1]? = some y.at_ := by rw [List.getElem?_map, HY.out]; rfl
          have HMX := Lib.hid hmx
          have HMY := Lib.hid hmy
          have HN := Lib.hid (fun (hm : mayE e) (hs : ¬ startOk x.at_ ∨ ¬ startOk x.start ∨ x.long < 0 ∨ 10080 < x.long ∨ x.at_ ≤ y.at_) => show False from by
            obtain ⟨h1, h2, h3, h4⟩ := HN1.out hm
            rcases hs with h | h | h | h | h
            · exact h h1
            · exact h h2
            · omega
            · omega
            · have := (HPRE.out.2 hm).2.2.1 (k - 1) y.at_ x.at_ HMY.out (by rw [show k - 1 + 1 = k by omega]; exact HMX.out)
              omega)
          have J2 := Lib.hid (fun hxy : y.at_ < x.at_ => show risesTo (e.changes.map (·.at_)) (k + 1) from fun i a b hi ha hb => by
            by_cases e : i + 1 = k
            · obtain rfl : i = k - 1 := by omega
              rw [HMY.out] at ha; rw [show k - 1 + 1 = k by omega, HMX.out] at hb; cases ha; cases hb; omega
            · exact I2.out i a b (by omega) ha hb)
          clear hy hk0 hmx hmy
          refine wp_region_quiet_lit (by kernel_rfl) (by kernel_rfl) ?_
          repeat (any_goals (first | go_big_quiet_step ((go_at_call 46; exact Calls.quiet_of_same (ST.out _ _))) | quiet_step ((go_at_call 46; exact Calls.quiet_of_same (ST.out _ _))) | (refine wpQuiet_step (fun K hK => ?_); go_simp; split <;> (refine hK _ ?_; clear hK K))))
          all_goals (refine wpQuiet_nil ?_; intro _ hw'; obtain ⟨nq, hw''⟩ := hw'; subst hw'')
          all_goals go_wp2_with fail
          all_goals simp only [dec_iff, decf_iff, Bool.not_eq_true', Bool.not_eq_false', Int.not_le, Int.not_lt] at *
          all_goals first
            | (go_ret
               exact ⟨ret_f fun hm => HN.out hm (by first | (left; assumption) | (right; left; assumption) | (right; right; left; omega) | (right; right; right; left; omega) | (right; right; right; right; omega)), below_drewN HBn.out _⟩)
            | (go_roundw
               case measure => simp [intOf]; omega
               case rel => exact ⟨k + 1, by omega, by go_num, Lib.hid (below_drewN HBn.out _), Lib.hid (XEn.out.below (below_drewN (Below.refl _ _) _)), J1.out (by assumption) (by assumption) (by omega) (by omega), J2.out (by first | trivial | omega)⟩)
      · obtain rfl : nc = k := by omega
        have HALL := Lib.hid (show changesE e.changes from ⟨fun c hc => by
            obtain ⟨i, hi, rfl⟩ := List.getElem_of_mem hc
            exact (I1.out i _ (by have := L3.out; omega) (List.getElem?_eq_getElem hi)).2, fun y hy => by
            obtain ⟨c, hc, rfl⟩ := List.mem_map.1 hy
            obtain ⟨i, hi, rfl⟩ := List.getElem_of_mem hc
            exact (I1.out i _ (by have := L3.out; omega) (List.getElem?_eq_getElem hi)).1, fun i a b ha hb => I2.out i a b (by
            have := (List.getElem?_eq_some_iff.1 hb).1
            have := L3.out
            simp at *; omega) ha hb, by simp; have := L3.out; omega⟩)
        go_wp2_with fail
        go_ret
        exact ⟨ret_t (HPRE.out.1 HALL.out), HB.out⟩
  · have HNP := Lib.hid (show ¬ mayE e from fun h => hpre (by
      have hc := HCH.out
      have h1 := HME.out.1 h
      have h2 := h1.2.2.2.2 (by trivial)
      exact ⟨h1.1, h1.2.1, h1.2.2.1, h2.2.1, h2.2.2.1, h2.2.2.2.1, hc h2.2.2.2.2⟩))
    have HPN := Lib.hid hpre
    clear hpre HME HCH
    go_enter Tryz.func14, Tryz.ntmps14
    go_wp2_with (first
  | (go_at_call 46; ((with_reducible refine (ST.out _ _).mono ?_)); rintro q w1 ⟨rfl, hb1⟩; obtain rfl := hb1.symm)
  | (go_at_call 47; ((with_reducible refine (CS.out _ HB0.out).mono ?_)); rintro q w1 ⟨rfl, hb1⟩; have XE1 := Lib.hid (XE0.out.below hb1); clear kE; have kE := XE1.out.cell; have HB1 := Lib.hid (HB0.out.trans (hb1.mono HB0.out.size)); clear hb1)
  | (go_at_call 48; ((with_reducible refine (CM.out _ HB0.out).mono ?_)); rintro q w1 ⟨rfl, hb1⟩; have XE1 := Lib.hid (XE0.out.below hb1); clear kE; have kE := XE1.out.cell; have HB1 := Lib.hid (HB0.out.trans (hb1.mono HB0.out.size)); clear hb1)
  | (go_at_call 49; ((with_reducible refine (C1.out _ HB1.out).mono ?_)); rintro q w2 ⟨rfl, m2, hw2⟩; have hb2 := (show Below w1.heap.size w1 w2 from hw2 ▸ below_drewN (Below.refl _ _) m2); clear hw2; have XE2 := Lib.hid (XE1.out.below hb2); clear kE; have kE := XE2.out.cell; have HB2 := Lib.hid (HB1.out.trans (hb2.mono HB1.out.size)); clear hb2)
  | (go_at_call 49; ((with_reducible refine (C2.out _ HB2.out).mono ?_)); rintro q w3 ⟨rfl, m3, hw3⟩; have hb3 := (show Below w2.heap.size w2 w3 from hw3 ▸ below_drewN (Below.refl _ _) m3); clear hw3; have XE3 := Lib.hid (XE2.out.below hb3); clear kE; have kE := XE3.out.cell; have HB3 := Lib.hid (HB2.out.trans (hb3.mono HB2.out.size)); clear hb3))
    all_goals first
      | (go_ret; exact ⟨ret_f HNP.out, by first | exact HB3.out | exact HB2.out | exact HB1.out | exact HB0.out⟩)
      | (exfalso; have hn := HPN.out; clear HPN HNP CS CM C1 C2 RC; (try simp only [decide_eq_true_eq, true_iff, dec_iff, decf_iff, Int.not_lt, beq_iff_eq, Bool.not_eq_true', Bool.not_eq_false', Bool.false_eq_true, false_iff] at *); exact hn ⟨by assumption, by omega, by omega, by assumption, by assumption, by assumption, by omega⟩)
end Go.Proofs.YtechgcjdigpglaaGreat
