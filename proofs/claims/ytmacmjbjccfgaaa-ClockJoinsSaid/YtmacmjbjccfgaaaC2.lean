/- Walks of civil's functions and of the document's; part of the proof of the laws of layer 3. Conditions: each theorem's own. -/
import Derived.Test.YtmacmjbjccfgaaaC1
import Derived.Deep.QuietTactic
import Derived.BigQuiet
namespace Go.Proofs.Ytmacmjbjccfgaaa
open Go.RowKit

def leapB (y : Int) : Bool := (y % 4 == 0 && y % 100 != 0) || y % 400 == 0

theorem leapN_b (y : Int) : leapN y = if leapB y = true then 1 else 0 := by
  unfold leapN leapB
  simp only [Bool.or_eq_true, Bool.and_eq_true, beq_iff_eq, bne_iff_ne]

theorem ret_b {a b : Bool} (h : a = b) : Ending.returned (.bool a) = Ending.returned (.bool b) := by rw [h]

theorem leap_any (y : Int) (h0 : 0 ≤ y) (h1 : y ≤ 100000) (w : World) :
    Calls Try.prog 41 #[.int .i64 y] w fun e w' => e = .returned (.bool (leapB y)) ∧ w = w' := by
  have H : leapB y = ((y % 4 == 0 && y % 100 != 0) || y % 400 == 0) := rfl
  have n1 : (y % 100 != 0) = !(y % 100 == 0) := rfl
  cases h4 : (y % 4 == 0) <;> cases h100 : (y % 100 == 0) <;> cases h400 : (y % 400 == 0) <;>
  · rw [h100] at n1
    rw [h4, n1, h400] at H
    have H' := Lib.hid H
    clear H
    simp only [Bool.not_false, Bool.not_true] at n1
    go_enter Try.func41, Try.ntmps41
    go_wp2
    go_ret
    exact ⟨ret_b H'.out.symm, rfl⟩

theorem refLeap_any (y : Int) (h0 : 0 ≤ y) (h1 : y ≤ 100000) (w : World) :
    Calls Try.prog 35 #[.int .i64 y] w fun e w' => e = .returned (.bool (leapB y)) ∧ w = w' := by
  have H : leapB y = ((y % 4 == 0 && y % 100 != 0) || y % 400 == 0) := rfl
  have n1 : (y % 100 != 0) = !(y % 100 == 0) := rfl
  cases h4 : (y % 4 == 0) <;> cases h100 : (y % 100 == 0) <;> cases h400 : (y % 400 == 0) <;>
  · rw [h100] at n1
    rw [h4, n1, h400] at H
    have H' := Lib.hid H
    clear H
    simp only [Bool.not_false, Bool.not_true] at n1
    go_enter Try.func35, Try.ntmps35
    go_wp2
    go_ret
    exact ⟨ret_b H'.out.symm, rfl⟩

theorem length_any (y m : Int) (h0 : 0 ≤ y) (h1 : y ≤ 100000) (hm0 : 0 ≤ m) (hm1 : m ≤ 10000) (w : World) :
    Calls Try.prog 40 #[.int .i64 y, .int .i64 m] w fun e w' => e = .returned (.int .i64 (lenM y m)) ∧ w = w' := by
  by_cases hm : 1 ≤ m ∧ m ≤ 12
  · have hm : m = 1 ∨ m = 2 ∨ m = 3 ∨ m = 4 ∨ m = 5 ∨ m = 6 ∨ m = 7 ∨ m = 8 ∨ m = 9 ∨ m = 10 ∨ m = 11 ∨ m = 12 := by omega
    have hl := leapN_b y
    have D := Lib.hid (fun w => leap_any y h0 h1 w)
    have HL := Lib.hid hl
    clear hl
    cases hb : leapB y <;> rw [hb] at D HL <;> clear hb <;>
    (rcases hm with rfl | rfl | rfl | rfl | rfl | rfl | rfl | rfl | rfl | rfl | rfl | rfl <;>
    · go_enter Try.func40, Try.ntmps40
      go_wp2_with (go_at_call 41; (with_reducible refine (D.out _).mono ?_); rintro e w' ⟨rfl, rfl⟩)
      go_ret
      exact ⟨ret_i (by have := HL.out; simp [lenM, this]), rfl⟩)
  · have e := lenM_out y m (by omega)
    have E := Lib.hid e
    have hs : (m == 1) = false ∧ (m == 2) = false ∧ (m == 3) = false ∧ (m == 4) = false ∧ (m == 5) = false ∧ (m == 6) = false ∧ (m == 7) = false ∧ (m == 8) = false ∧ (m == 9) = false ∧ (m == 10) = false ∧ (m == 11) = false ∧ (m == 12) = false := by
      refine ⟨?_, ?_, ?_, ?_, ?_, ?_, ?_, ?_, ?_, ?_, ?_, ?_⟩ <;> (rw [beq_eq_false_iff_ne]; omega)
    obtain ⟨t1, t2, t3, t4, t5, t6, t7, t8, t9, t10, t11, t12⟩ := hs
    clear e hm
    go_enter Try.func40, Try.ntmps40
    go_wp2
    go_ret
    exact ⟨ret_i E.out.symm, rfl⟩

theorem below_drewN {B : Nat} {a w : World} (h : Below B a w) (n : Nat) : Below B a (w.drewN n) := ⟨h.os, h.tape, h.output, h.size, h.block⟩

theorem ret_ii {a b c d : Int} (h : a = c ∧ b = d) : Ending.returned (.tuple #[.int .i64 a, .int .i64 b]) = Ending.returned (.tuple #[.int .i64 c, .int .i64 d]) := by rw [h.1, h.2]

theorem shifted_any (y m d : Int) (h0 : 0 ≤ y) (h1 : y ≤ 100000) (hm0 : 0 ≤ m) (hm1 : m ≤ 10000) (w : World) :
    Calls Try.prog 38 #[.agg #[.int .i64 y, .int .i64 m, .int .i64 d]] w fun e w' => e = .returned (.tuple #[.int .i64 (shY y m), .int .i64 (shM m)]) ∧ Below w.heap.size w w' := by
  by_cases h : m < 3
  · have H := Lib.hid (show y - 1 = shY y m ∧ m + 9 = shM m by unfold shY shM; rw [if_pos h, if_pos h]; exact ⟨rfl, rfl⟩)
    go_enter Try.func38, Try.ntmps38
    go_wp2
    go_quiet (fail)
    go_wp2
    go_ret2
    exact ⟨ret_ii H.out, below_drewN ((Below.refl _ _).alloc (Nat.le_refl _) _) _⟩
  · have H := Lib.hid (show y = shY y m ∧ m - 3 = shM m by unfold shY shM; rw [if_neg h, if_neg h]; exact ⟨rfl, rfl⟩)
    go_enter Try.func38, Try.ntmps38
    go_wp2
    go_quiet (fail)
    go_wp2
    go_ret2
    exact ⟨ret_ii H.out, below_drewN ((Below.refl _ _).alloc (Nat.le_refl _) _) _⟩

theorem quiet_eq {P : Program} {f : Nat} {args : Array Value} {w : World} {v : Value} (h : Calls P f args w fun e w' => e = .returned v ∧ w = w') :
    Calls P f args w fun e w' => e = .returned v ∧ w' = w := h.mono fun _ _ ⟨a, b⟩ => ⟨a, b.symm⟩

set_option maxHeartbeats 2000000 in
theorem may_any (y m d : Int) (h0 : 0 ≤ y) (h1 : y ≤ 10000) (hm0 : 0 ≤ m) (hm1 : m ≤ 10000) (b : Bool) (hb : b = true ↔ validD y m d) (w : World) :
    Calls Try.prog 37 #[.agg #[.int .i64 y, .int .i64 m, .int .i64 d]] w fun e w' => e = .returned (.bool b) ∧ Below w.heap.size w w' := by
  have hbd := lenM_bd y m
  have D := Lib.hid (fun w => quiet_eq (length_any y m (by omega) (by omega) hm0 hm1 w))
  by_cases v1 : 1900 ≤ y
  · by_cases v2 : y ≤ 2200
    · by_cases v3 : 1 ≤ d
      · have hb' : b = decide (d ≤ lenM y m) := by
          rw [Bool.eq_iff_iff, hb, decide_eq_true_iff]; unfold validD; omega
        have Hb := Lib.hid hb'.symm
        clear hb hb'
        go_enter Try.func37, Try.ntmps37
        go_wp2
        go_quiet ((go_at_call 40; exact Calls.quiet_of_same (D.out _)))
        go_wp2
        go_ret
        exact ⟨ret_b Hb.out, below_drewN ((Below.refl _ _).alloc (Nat.le_refl _) _) _⟩
      · have hb' : b = false := by
          rw [Bool.eq_false_iff]; intro e; have := hb.1 e; unfold validD at this; omega
        subst hb'
        have h3 : decide (1 ≤ d) = false := decide_eq_false v3
        clear hb
        go_enter Try.func37, Try.ntmps37
        go_wp2
        go_quiet (fail)
        go_wp2
        go_ret
        exact ⟨rfl, below_drewN ((Below.refl _ _).alloc (Nat.le_refl _) _) _⟩
    · have hb' : b = false := by
        rw [Bool.eq_false_iff]; intro e; have := hb.1 e; unfold validD at this; omega
      subst hb'
      have h3 : decide (y ≤ 2200) = false := decide_eq_false v2
      clear hb
      go_enter Try.func37, Try.ntmps37
      go_wp2
      go_quiet (fail)
      go_wp2
      go_ret
      exact ⟨rfl, below_drewN ((Below.refl _ _).alloc (Nat.le_refl _) _) _⟩
  · have hb' : b = false := by
      rw [Bool.eq_false_iff]; intro e; have := hb.1 e; unfold validD at this; omega
    subst hb'
    have h3 : decide (1900 ≤ y) = false := decide_eq_false v1
    clear hb
    go_enter Try.func37, Try.ntmps37
    go_wp2
    go_quiet (fail)
    go_wp2
    go_ret
    exact ⟨rfl, below_drewN ((Below.refl _ _).alloc (Nat.le_refl _) _) _⟩

set_option maxHeartbeats 2000000 in
theorem number_no (y m d : Int) (h0 : 0 ≤ y) (h1 : y ≤ 10000) (hm0 : 0 ≤ m) (hm1 : m ≤ 10000) (hb : ¬ validD y m d) (w : World) :
    Calls Try.prog 29 #[.agg #[.int .i64 y, .int .i64 m, .int .i64 d]] w fun e w' => e = .returned (.tuple #[.int .i64 0, .bool false]) ∧ Below w.heap.size w w' := by
  have D := Lib.hid (fun w => may_any y m d h0 h1 hm0 hm1 false (by simp [hb]) w)
  clear hb
  go_enter Try.func29, Try.ntmps29
  go_wp2_with fail
  (with_reducible refine (D.out _).mono ?_)
  rintro e w1 ⟨rfl, hb1⟩
  go_wp2
  go_ret2
  exact ⟨rfl, below_call ((Below.refl _ _).alloc (Nat.le_refl _) _) hb1⟩

set_option maxHeartbeats 2000000 in
theorem number_yes (y m d : Int) (hb : validD y m d) (w : World) :
    Calls Try.prog 29 #[.agg #[.int .i64 y, .int .i64 m, .int .i64 d]] w fun e w' => e = .returned (.tuple #[.int .i64 (numD y m d), .bool true]) ∧ Below w.heap.size w w' := by
  have hm := valid_month y m d hb
  have hv := hb
  obtain ⟨v1, v2, v3, v4⟩ := hv
  have hbd := lenM_bd y m
  have hnb := numD_bd y m d hb hm
  have D := Lib.hid (fun w => may_any y m d (by omega) (by omega) (by omega) (by omega) true (by simp [hb]) w)
  have D2 := Lib.hid (fun w => shifted_any y m d (by omega) (by omega) (by omega) (by omega) w)
  have hs : 0 ≤ shY y m ∧ shY y m ≤ 3000 ∧ 0 ≤ shM m ∧ shM m ≤ 11 := by unfold shY shM; split <;> omega
  obtain ⟨s1, s2, s3, s4⟩ := hs
  have he1 : 0 ≤ era (shY y m) := by unfold era; omega
  have he2 : era (shY y m) ≤ 2000000 := by unfold era; omega
  have he3 : 0 ≤ march (shM m) := by unfold march; omega
  have he4 : march (shM m) ≤ 400 := by unfold march; omega
  clear hb
  go_enter Try.func29, Try.ntmps29
  go_wp2_with fail
  (with_reducible refine (D.out _).mono ?_)
  rintro e w1 ⟨rfl, hb1⟩
  have hc : w1.cell? ⟨w.heap.size, 0, none⟩ = some (.int .i64 y) ∧ w1.cell? ⟨w.heap.size, 1, none⟩ = some (.int .i64 m) ∧ w1.cell? ⟨w.heap.size, 2, none⟩ = some (.int .i64 d) := by
    refine ⟨?_, ?_, ?_⟩ <;> (rw [hb1.cell (by simp)]; simp [go_sem])
  obtain ⟨c1, c2, c3⟩ := hc
  have hz1 : w.heap.size < w1.heap.size := by have := hb1.size; simp at this; omega
  go_wp2_with fail
  (with_reducible refine (D2.out _).mono ?_)
  rintro e w2 ⟨rfl, hb2⟩
  have c3' : w2.cell? ⟨w.heap.size, 2, none⟩ = some (.int .i64 d) := by rw [hb2.cell (by exact hz1)]; exact c3
  go_wp2
  go_quiet (first | (go_at_call 33; exact Calls.quiet_of_same (quiet_eq (era_any _ (by omega) (by omega) _))) | (go_at_call 34; exact Calls.quiet_of_same (quiet_eq (march_any _ (by omega) (by omega) _))) | (go_at_call 32; exact Calls.quiet_of_same (quiet_eq (first_any _))))
  go_wp2
  go_ret2
  exact ⟨rfl, below_drewN (below_call (below_call ((Below.refl _ _).alloc (Nat.le_refl _) _) hb1) hb2 (by omega)) _⟩
end Go.Proofs.Ytmacmjbjccfgaaa
