/- The walks of civil. Conditions: each theorem's own. -/
import Derived.Test.YtechgcjdigpglaaGreatV15
import Derived.Test.YtechgcjdigpglaaGreatH1
namespace Go.Proofs.YtechgcjdigpglaaGreat
open Go.RowKit
set_option linter.all false

theorem era_any (y : Int) (h0 : 0 ≤ y) (h1 : y ≤ 100000) (w : World) :
    Calls Tryz.prog 206 #[.int .i64 y] w fun e w' => e = .returned (.int .i64 (era y)) ∧ w = w' := by
  go_enter Tryz.func206, Tryz.ntmps206
  go_wp2
  go_ret
  exact ⟨rfl, rfl⟩
theorem march_any (y : Int) (h0 : 0 ≤ y) (h1 : y ≤ 100000) (w : World) :
    Calls Tryz.prog 207 #[.int .i64 y] w fun e w' => e = .returned (.int .i64 (march y)) ∧ w = w' := by
  go_enter Tryz.func207, Tryz.ntmps207
  go_wp2
  go_ret
  exact ⟨rfl, rfl⟩
theorem first_any (w : World) : Calls Tryz.prog 205 #[] w fun e w' => e = .returned (.int .i64 693901) ∧ w = w' := by
  go_enter Tryz.func205, Tryz.ntmps205
  go_wp2_with (first | (go_at_call 206; refine (era_any _ (by omega) (by omega) _).mono ?_; rintro e w' ⟨rfl, rfl⟩) | (go_at_call 207; refine (march_any _ (by omega) (by omega) _).mono ?_; rintro e w' ⟨rfl, rfl⟩))
  go_ret
  exact ⟨by show Ending.returned (.int .i64 _) = _; congr 2; decide +kernel, rfl⟩
theorem date_no (n : Int) (h : n < 0 ∨ 109938 ≤ n) (w : World) :
    Calls Tryz.prog 173 #[.int .i64 n] w fun e w' => e = .returned (.tuple #[.agg #[.int .i64 0, .int .i64 0, .int .i64 0], .bool false]) ∧ Below w.heap.size w w' := by
  rcases h with h | h
  · go_enter Tryz.func173, Tryz.ntmps173
    go_wp2
    exact bodyPost_ret (v := .tuple #[.agg #[.int .i64 0, .int .i64 0, .int .i64 0], .bool false]) (by simp [results, Tryz.results173, go_sem]) rfl ⟨rfl, by repeat (first | exact Below.refl _ _ | refine Below.setCell ?_ (by simp) _ | refine Below.alloc ?_ (by simp) _)⟩
  · have h' : ¬ n < 0 := by omega
    go_enter Tryz.func173, Tryz.ntmps173
    go_wp2
    exact bodyPost_ret (v := .tuple #[.agg #[.int .i64 0, .int .i64 0, .int .i64 0], .bool false]) (by simp [results, Tryz.results173, go_sem]) rfl ⟨rfl, by repeat (first | exact Below.refl _ _ | refine Below.setCell ?_ (by simp) _ | refine Below.alloc ?_ (by simp) _)⟩
set_option maxHeartbeats 1000000 in
theorem date_yes (n : Int) (h0 : 0 ≤ n) (h1 : n < 109938) (w : World) :
    Calls Tryz.prog 173 #[.int .i64 n] w fun e w' => e = .returned (.tuple #[.agg #[.int .i64 (dateY n), .int .i64 (dateM n), .int .i64 (dD n)], .bool true]) ∧ Below w.heap.size w w' := by
  have h2 : ¬ n < 0 := by omega
  have h3 : ¬ 109938 ≤ n := by omega
  have hys := yOf_spec (n + 693901) (by omega) (by omega)
  have hrb := dRest_bd n h0 h1
  have hmb := dM_bd n h0 h1
  go_enter Tryz.func173, Tryz.ntmps173
  go_wp2_with (go_at_call 205; refine (first_any _).mono ?_; rintro e w' ⟨rfl, rfl⟩)
  go_loop [4] (fun a => ∃ y : Int, yOf (n + 693901) ≤ y ∧ y ≤ (n + 693901) / 365 ∧ a = .int .i64 y) (fun a => (intOf a).toNat)
  case atStart => exact ⟨(n + 693901) / 365, hys.2.2.1, by omega, rfl⟩
  case round =>
    obtain ⟨y, hy0, hy1, rfl⟩ := hrel
    by_cases hc : y = yOf (n + 693901)
    · have hr : n + 693901 - era y = dRest n := by rw [hc]; rfl
      have he : ¬ n + 693901 < era y := by omega
      have hy2 : 0 ≤ y := by omega
      have hy3 : y ≤ 3000 := by omega
      have hM : (5 * (n + 693901 - era y) + 2) / 153 = dM n := by rw [hr]; rfl
      have hD : n + 693901 - era y - march ((5 * (n + 693901 - era y) + 2) / 153) + 1 = dD n := by rw [hM, hr]; rfl
      have hb1 : 0 ≤ n + 693901 - era y := by omega
      have hb2 : n + 693901 - era y ≤ 365 := by omega
      have hb3 : 0 ≤ march ((5 * (n + 693901 - era y) + 2) / 153) := by unfold march; omega
      have hb4 : march ((5 * (n + 693901 - era y) + 2) / 153) ≤ 365 := by unfold march; omega
      have Hc := Lib.hid hc; have HM := Lib.hid hM; have HD := Lib.hid hD
      by_cases hm : 10 ≤ (5 * (n + 693901 - era y) + 2) / 153
      all_goals
        have hm' := hm
        rw [hM] at hm'
        have HY := Lib.hid (show (if 10 ≤ dM n then dateY n = y + 1 ∧ dateM n = dM n - 9 else dateY n = y ∧ dateM n = dM n + 3) by unfold dateY dateM; rw [← hc]; split <;> exact ⟨rfl, rfl⟩)
        have Hm := Lib.hid hm'
        clear hc hM hD hm' hr hys hrb hmb hy0 hy1
        go_wp2_with fail
        refine (era_any _ (by omega) (by omega) _).mono ?_; rintro e w' ⟨rfl, rfl⟩
        go_wp2_with fail
        refine (era_any _ (by omega) (by omega) _).mono ?_; rintro e w' ⟨rfl, rfl⟩
        go_wp2_with fail
        refine (march_any _ (by omega) (by omega) _).mono ?_; rintro e w' ⟨rfl, rfl⟩
        go_wp2
      · have hy := HY.out
        rw [if_pos Hm.out, ← HM.out] at hy
        have hd := HD.out
        refine bodyPost_ret (v := .tuple #[.agg #[.int .i64 (y + 1), .int .i64 ((5 * (n + 693901 - era y) + 2) / 153 - 9), .int .i64 (n + 693901 - era y - march ((5 * (n + 693901 - era y) + 2) / 153) + 1)], .bool true]) (by simp [results, Tryz.results173, go_sem]) rfl ⟨by rw [hy.1, hy.2, hd], by repeat (first | exact Below.refl _ _ | refine Below.setCell ?_ (by simp) _ | refine Below.alloc ?_ (by simp) _)⟩
      · have hy := HY.out
        rw [if_neg (by have := Hm.out; omega), ← HM.out] at hy
        have hd := HD.out
        refine bodyPost_ret (v := .tuple #[.agg #[.int .i64 y, .int .i64 ((5 * (n + 693901 - era y) + 2) / 153 + 3), .int .i64 (n + 693901 - era y - march ((5 * (n + 693901 - era y) + 2) / 153) + 1)], .bool true]) (by simp [results, Tryz.results173, go_sem]) rfl ⟨by rw [hy.1, hy.2, hd], by repeat (first | exact Below.refl _ _ | refine Below.setCell ?_ (by simp) _ | refine Below.alloc ?_ (by simp) _)⟩
    · have he : n + 693901 < era y := by
        have := era_mono (yOf (n + 693901) + 1) y (by omega)
        omega
      go_wp2_with (first | (go_at_call 206; refine (era_any _ (by omega) (by omega) _).mono ?_; rintro e w' ⟨rfl, rfl⟩) | (go_at_call 207; refine (march_any _ (by omega) (by omega) _).mono ?_; rintro e w' ⟨rfl, rfl⟩))
      go_round
      case rel => exact ⟨y - 1, by omega, by omega, rfl⟩
      case measure => simp [intOf]; omega
def leapB (y : Int) : Bool := (y % 4 == 0 && y % 100 != 0) || y % 400 == 0
theorem leapN_b (y : Int) : leapN y = if leapB y = true then 1 else 0 := by
  unfold leapN leapB
  simp only [Bool.or_eq_true, Bool.and_eq_true, beq_iff_eq, bne_iff_ne]
theorem leap_any (y : Int) (h0 : 0 ≤ y) (h1 : y ≤ 100000) (w : World) :
    Calls Tryz.prog 235 #[.int .i64 y] w fun e w' => e = .returned (.bool (leapB y)) ∧ w = w' := by
  have H : leapB y = ((y % 4 == 0 && y % 100 != 0) || y % 400 == 0) := rfl
  have n1 : (y % 100 != 0) = !(y % 100 == 0) := rfl
  cases h4 : (y % 4 == 0) <;> cases h100 : (y % 100 == 0) <;> cases h400 : (y % 400 == 0) <;>
  · rw [h100] at n1
    rw [h4, n1, h400] at H
    have H' := Lib.hid H
    clear H
    simp only [Bool.not_false, Bool.not_true] at n1
    go_enter Tryz.func235, Tryz.ntmps235
    go_wp2
    go_ret
    exact ⟨ret_b H'.out.symm, rfl⟩
theorem length_any (y m : Int) (h0 : 0 ≤ y) (h1 : y ≤ 100000) (hm0 : 0 ≤ m) (hm1 : m ≤ 10000) (w : World) :
    Calls Tryz.prog 228 #[.int .i64 y, .int .i64 m] w fun e w' => e = .returned (.int .i64 (lenM y m)) ∧ w = w' := by
  by_cases hm : 1 ≤ m ∧ m ≤ 12
  · have hm : m = 1 ∨ m = 2 ∨ m = 3 ∨ m = 4 ∨ m = 5 ∨ m = 6 ∨ m = 7 ∨ m = 8 ∨ m = 9 ∨ m = 10 ∨ m = 11 ∨ m = 12 := by omega
    have hl := leapN_b y
    have D := Lib.hid (fun w => leap_any y h0 h1 w)
    have HL := Lib.hid hl
    clear hl
    cases hb : leapB y <;> rw [hb] at D HL <;> clear hb <;>
    (rcases hm with rfl | rfl | rfl | rfl | rfl | rfl | rfl | rfl | rfl | rfl | rfl | rfl <;>
    · go_enter Tryz.func228, Tryz.ntmps228
      go_wp2_with (go_at_call 235; (with_reducible refine (D.out _).mono ?_); rintro e w' ⟨rfl, rfl⟩)
      go_ret
      exact ⟨ret_i (by have := HL.out; simp [lenM, this]), rfl⟩)
  · have e := lenM_out y m (by omega)
    have E := Lib.hid e
    have hs : (m == 1) = false ∧ (m == 2) = false ∧ (m == 3) = false ∧ (m == 4) = false ∧ (m == 5) = false ∧ (m == 6) = false ∧ (m == 7) = false ∧ (m == 8) = false ∧ (m == 9) = false ∧ (m == 10) = false ∧ (m == 11) = false ∧ (m == 12) = false := by
      refine ⟨?_, ?_, ?_, ?_, ?_, ?_, ?_, ?_, ?_, ?_, ?_, ?_⟩ <;> (rw [beq_eq_false_iff_ne]; omega)
    obtain ⟨t1, t2, t3, t4, t5, t6, t7, t8, t9, t10, t11, t12⟩ := hs
    clear e hm
    go_enter Tryz.func228, Tryz.ntmps228
    go_wp2
    go_ret
    exact ⟨ret_i E.out.symm, rfl⟩
theorem ret_ii {a b c d : Int} (h : a = c ∧ b = d) : Ending.returned (.tuple #[.int .i64 a, .int .i64 b]) = Ending.returned (.tuple #[.int .i64 c, .int .i64 d]) := by rw [h.1, h.2]
theorem shifted_any (y m d : Int) (h0 : 0 ≤ y) (h1 : y ≤ 100000) (hm0 : 0 ≤ m) (hm1 : m ≤ 10000) (w : World) :
    Calls Tryz.prog 234 #[.agg #[.int .i64 y, .int .i64 m, .int .i64 d]] w fun e w' => e = .returned (.tuple #[.int .i64 (shY y m), .int .i64 (shM m)]) ∧ Below w.heap.size w w' := by
  by_cases h : m < 3
  · have H := Lib.hid (show y - 1 = shY y m ∧ m + 9 = shM m by unfold shY shM; rw [if_pos h, if_pos h]; exact ⟨rfl, rfl⟩)
    go_enter Tryz.func234, Tryz.ntmps234
    go_wp2
    go_quiet (fail)
    go_wp2
    go_ret2
    exact ⟨ret_ii H.out, below_drewN ((Below.refl _ _).alloc (Nat.le_refl _) _) _⟩
  · have H := Lib.hid (show y = shY y m ∧ m - 3 = shM m by unfold shY shM; rw [if_neg h, if_neg h]; exact ⟨rfl, rfl⟩)
    go_enter Tryz.func234, Tryz.ntmps234
    go_wp2
    go_quiet (fail)
    go_wp2
    go_ret2
    exact ⟨ret_ii H.out, below_drewN ((Below.refl _ _).alloc (Nat.le_refl _) _) _⟩
theorem quiet_eq {P : Program} {f : Nat} {args : Array Value} {w : World} {v : Value} (h : Calls P f args w fun e w' => e = .returned v ∧ w = w') :
    Calls P f args w fun e w' => e = .returned v ∧ w' = w := h.mono fun _ _ ⟨a, b⟩ => ⟨a, b.symm⟩
set_option maxHeartbeats 2000000 in
theorem cMay_any (y m d : Int) (h0 : 0 ≤ y) (h1 : y ≤ 10000) (hm0 : 0 ≤ m) (hm1 : m ≤ 10000) (b : Bool) (hb : b = true ↔ validD y m d) (w : World) :
    Calls Tryz.prog 233 #[.agg #[.int .i64 y, .int .i64 m, .int .i64 d]] w fun e w' => e = .returned (.bool b) ∧ Below w.heap.size w w' := by
  have hbd := lenM_bd y m
  have D := Lib.hid (fun w => quiet_eq (length_any y m (by omega) (by omega) hm0 hm1 w))
  by_cases v1 : 1900 ≤ y
  · by_cases v2 : y ≤ 2200
    · by_cases v3 : 1 ≤ d
      · have hb' : b = decide (d ≤ lenM y m) := by
          rw [Bool.eq_iff_iff, hb, decide_eq_true_iff]; unfold validD; omega
        have Hb := Lib.hid hb'.symm
        clear hb hb'
        go_enter Tryz.func233, Tryz.ntmps233
        go_wp2
        go_quiet ((go_at_call 228; exact Calls.quiet_of_same (D.out _)))
        go_wp2
        go_ret
        exact ⟨ret_b Hb.out, below_drewN ((Below.refl _ _).alloc (Nat.le_refl _) _) _⟩
      · have hb' : b = false := by
          rw [Bool.eq_false_iff]; intro e; have := hb.1 e; unfold validD at this; omega
        subst hb'
        have h3 : decide (1 ≤ d) = false := decide_eq_false v3
        clear hb
        go_enter Tryz.func233, Tryz.ntmps233
        go_wp2
        go_quiet (fail)
        go_wp2
        go_ret
        exact ⟨rfl, below_drewN ((Below.refl _ _).alloc (Nat.le_refl _) _) _⟩
    · have hb' : b = false := by
        rw [Bool.eq_false_iff]; intro e; have := hb.1 e; unfold validD at this; omega
      subst hb'
      have h3 : decide (y ≤ 2200) = false := decide_eq_false v2
      clear hb
      go_enter Tryz.func233, Tryz.ntmps233
      go_wp2
      go_quiet (fail)
      go_wp2
      go_ret
      exact ⟨rfl, below_drewN ((Below.refl _ _).alloc (Nat.le_refl _) _) _⟩
  · have hb' : b = false := by
      rw [Bool.eq_false_iff]; intro e; have := hb.1 e; unfold validD at this; omega
    subst hb'
    have h3 : decide (1900 ≤ y) = false := decide_eq_false v1
    clear hb
    go_enter Tryz.func233, Tryz.ntmps233
    go_wp2
    go_quiet (fail)
    go_wp2
    go_ret
    exact ⟨rfl, below_drewN ((Below.refl _ _).alloc (Nat.le_refl _) _) _⟩
set_option maxHeartbeats 2000000 in
theorem number_no (y m d : Int) (h0 : 0 ≤ y) (h1 : y ≤ 10000) (hm0 : 0 ≤ m) (hm1 : m ≤ 10000) (hb : ¬ validD y m d) (w : World) :
    Calls Tryz.prog 227 #[.agg #[.int .i64 y, .int .i64 m, .int .i64 d]] w fun e w' => e = .returned (.tuple #[.int .i64 0, .bool false]) ∧ Below w.heap.size w w' := by
  have D := Lib.hid (fun w => cMay_any y m d h0 h1 hm0 hm1 false (by simp [hb]) w)
  clear hb
  go_enter Tryz.func227, Tryz.ntmps227
  go_wp2_with fail
  (with_reducible refine (D.out _).mono ?_)
  rintro e w1 ⟨rfl, hb1⟩
  go_wp2
  go_ret2
  exact ⟨rfl, below_call ((Below.refl _ _).alloc (Nat.le_refl _) _) hb1⟩
set_option maxHeartbeats 2000000 in
theorem number_yes (y m d : Int) (hb : validD y m d) (w : World) :
    Calls Tryz.prog 227 #[.agg #[.int .i64 y, .int .i64 m, .int .i64 d]] w fun e w' => e = .returned (.tuple #[.int .i64 (numD y m d), .bool true]) ∧ Below w.heap.size w w' := by
  have hm := valid_month y m d hb
  have hv := hb
  obtain ⟨v1, v2, v3, v4⟩ := hv
  have hbd := lenM_bd y m
  have hnb := numD_bd y m d hb hm
  have D := Lib.hid (fun w => cMay_any y m d (by omega) (by omega) (by omega) (by omega) true (by simp [hb]) w)
  have D2 := Lib.hid (fun w => shifted_any y m d (by omega) (by omega) (by omega) (by omega) w)
  have hs : 0 ≤ shY y m ∧ shY y m ≤ 3000 ∧ 0 ≤ shM m ∧ shM m ≤ 11 := by unfold shY shM; split <;> omega
  obtain ⟨s1, s2, s3, s4⟩ := hs
  have he1 : 0 ≤ era (shY y m) := by unfold era; omega
  have he2 : era (shY y m) ≤ 2000000 := by unfold era; omega
  have he3 : 0 ≤ march (shM m) := by unfold march; omega
  have he4 : march (shM m) ≤ 400 := by unfold march; omega
  clear hb
  go_enter Tryz.func227, Tryz.ntmps227
  go_wp2_with fail
  (with_reducible refine (D.out _).mono ?_)
  rintro e w1 ⟨rfl, hb1⟩
  have hc : w1.cell? ⟨w.heap.size, 0, none⟩ = some (.int .i64 y) ∧ w1.cell? ⟨w.heap.size, 1, none⟩ = some (.int .i64 m) ∧ w1.cell? ⟨w.heap.size, 2, none⟩ = some (.int .i64 d) := by
    refine ⟨?_, ?_, ?_⟩ <;> (rw [hb1.cell (by simp)]; simp [go_sem])
  obtain ⟨c1, c2, c3⟩ := hc
  have hz1 : w.heap.size < w1.heap.size := by have := hb1.size; simp at this; omega
  go_wp2_with fail
  (with_reducible refine (D2.out _).mono ?_)
  rintro e w2 ⟨rfl, hb2⟩
  have c3' : w2.cell? ⟨w.heap.size, 2, none⟩ = some (.int .i64 d) := by rw [hb2.cell (by exact hz1)]; exact c3
  go_wp2
  go_quiet (first | (go_at_call 206; exact Calls.quiet_of_same (quiet_eq (era_any _ (by omega) (by omega) _))) | (go_at_call 207; exact Calls.quiet_of_same (quiet_eq (march_any _ (by omega) (by omega) _))) | (go_at_call 205; exact Calls.quiet_of_same (quiet_eq (first_any _))))
  go_wp2
  go_ret2
  exact ⟨rfl, below_drewN (below_call (below_call ((Below.refl _ _).alloc (Nat.le_refl _) _) hb1) hb2 (by omega)) _⟩
end Go.Proofs.YtechgcjdigpglaaGreat
