/- Dates and their numbers: the plain law; part of the proof of the laws of layer 3. Conditions: each theorem's own. Walks of civil's functions and of the document's; part of the proof of the laws of layer 3. Conditions: each theorem's own. Walks of the document's date functions; part of the proof of the laws of layer 3. Conditions: each theorem's own. Walks of the document's Number and Date of days; part of the proof of the laws of layer 3. Conditions: each theorem's own. The document's Stamp; part of the proof of the laws of layer 3. Conditions: each theorem's own. Walks of ReadStamp and of the document's; part of the proof of the laws of layer 3. Conditions: each theorem's own. What ReadStamp reads: the plain law; part of the proof of the laws of layer 3. Conditions: each theorem's own. -/
import Derived.Test.YtcleicjgeflbnaaGreatDoorA9
import Derived.Deep.QuietTactic
import Derived.BigQuiet
import Derived.Deep.RegionHeld3
namespace Go.Proofs.YtcleicjgeflbnaaGreatDoor
open Go.RowKit
set_option linter.all false

def leapN (y : Int) : Int := if y % 4 = 0 ∧ y % 100 ≠ 0 ∨ y % 400 = 0 then 1 else 0
def lenM (y m : Int) : Int := if m = 2 then 28 + leapN y else if m = 4 ∨ m = 6 ∨ m = 9 ∨ m = 11 then 30 else if 1 ≤ m ∧ m ≤ 12 then 31 else 0
def validD (y m d : Int) : Prop := 1900 ≤ y ∧ y ≤ 2200 ∧ 1 ≤ d ∧ d ≤ lenM y m
def shY (y m : Int) : Int := if m < 3 then y - 1 else y
def shM (m : Int) : Int := if m < 3 then m + 9 else m - 3
def numD (y m d : Int) : Int := era (shY y m) + march (shM m) + d - 1 - 693901

theorem leapN_bd (y : Int) : 0 ≤ leapN y ∧ leapN y ≤ 1 := by unfold leapN; split <;> omega

theorem era_leap (y : Int) : era (y + 1) = era y + 365 + leapN (y + 1) := by
  obtain ⟨a, b, c, d, rfl, b0, b1, c0, c1, d0, d1⟩ := year_parts y
  unfold leapN era
  have e1 : (400 * a + 100 * b + 4 * c + d) / 4 = 100 * a + 25 * b + c := by omega
  have e2 : (400 * a + 100 * b + 4 * c + d) / 100 = 4 * a + b := by omega
  have e3 : (400 * a + 100 * b + 4 * c + d) / 400 = a := by omega
  rw [e1, e2, e3]
  by_cases hd : d < 3
  · have f1 : (400 * a + 100 * b + 4 * c + d + 1) / 4 = 100 * a + 25 * b + c := by omega
    have f2 : (400 * a + 100 * b + 4 * c + d + 1) / 100 = 4 * a + b := by omega
    have f3 : (400 * a + 100 * b + 4 * c + d + 1) / 400 = a := by omega
    have g1 : (400 * a + 100 * b + 4 * c + d + 1) % 4 = d + 1 := by omega
    have g3 : (400 * a + 100 * b + 4 * c + d + 1) % 400 = 100 * b + 4 * c + d + 1 := by omega
    rw [f1, f2, f3, g1, g3, if_neg (by omega)]; omega
  · have f1 : (400 * a + 100 * b + 4 * c + d + 1) / 4 = 100 * a + 25 * b + c + 1 := by omega
    by_cases hc : c < 24
    · have f2 : (400 * a + 100 * b + 4 * c + d + 1) / 100 = 4 * a + b := by omega
      have f3 : (400 * a + 100 * b + 4 * c + d + 1) / 400 = a := by omega
      have g1 : (400 * a + 100 * b + 4 * c + d + 1) % 4 = 0 := by omega
      have g2 : (400 * a + 100 * b + 4 * c + d + 1) % 100 = 4 * c + 4 := by omega
      rw [f1, f2, f3, g1, g2, if_pos (by omega)]; omega
    · have f2 : (400 * a + 100 * b + 4 * c + d + 1) / 100 = 4 * a + b + 1 := by omega
      by_cases hb : b < 3
      · have f3 : (400 * a + 100 * b + 4 * c + d + 1) / 400 = a := by omega
        have g2 : (400 * a + 100 * b + 4 * c + d + 1) % 100 = 0 := by omega
        have g3 : (400 * a + 100 * b + 4 * c + d + 1) % 400 = 100 * b + 100 := by omega
        rw [f1, f2, f3, g2, g3, if_neg (by omega)]; omega
      · have f3 : (400 * a + 100 * b + 4 * c + d + 1) / 400 = a + 1 := by omega
        have g3 : (400 * a + 100 * b + 4 * c + d + 1) % 400 = 0 := by omega
        rw [f1, f2, f3, g3, if_pos (by omega)]; omega

theorem lenM_bd (y m : Int) : 0 ≤ lenM y m ∧ lenM y m ≤ 31 := by
  have := leapN_bd y
  unfold lenM; split <;> (try split) <;> (try split) <;> omega

theorem lenM_out (y m : Int) (h : m < 1 ∨ 12 < m) : lenM y m = 0 := by
  unfold lenM; rw [if_neg (by omega), if_neg (by omega), if_neg (by omega)]

/-- The next month begins just behind the month's last day. -/
theorem month_step (y m : Int) (h1 : 1 ≤ m) (h2 : m ≤ 12) : (shM m < 11 → lenM y m = march (shM m + 1) - march (shM m)) ∧ (shM m = 11 → lenM y m = era (shY y m + 1) - mBegin (shY y m) 11) := by
  have hl := era_leap (y - 1)
  rw [show y - 1 + 1 = y from by omega] at hl
  have hm : m = 1 ∨ m = 2 ∨ m = 3 ∨ m = 4 ∨ m = 5 ∨ m = 6 ∨ m = 7 ∨ m = 8 ∨ m = 9 ∨ m = 10 ∨ m = 11 ∨ m = 12 := by omega
  rcases hm with rfl | rfl | rfl | rfl | rfl | rfl | rfl | rfl | rfl | rfl | rfl | rfl <;>
    simp [shM, shY, lenM, march, mBegin] <;> omega

theorem date_valid (n : Int) (h0 : 0 ≤ n) (h1 : n < 109938) : validD (dateY n) (dateM n) (dD n) ∧ numD (dateY n) (dateM n) (dD n) = n ∧ 1 ≤ dateM n ∧ dateM n ≤ 12 := by
  have ys := yOf_spec (n + 693901) (by omega) (by omega)
  have ms := dM_bd n h0 h1
  have e : mBegin (yOf (n + 693901)) (dM n) + dD n = n + 693902 := by unfold mBegin dD dRest; omega
  have esh : shY (dateY n) (dateM n) = yOf (n + 693901) ∧ shM (dateM n) = dM n ∧ 1 ≤ dateM n ∧ dateM n ≤ 12 := by
    unfold shY shM dateY dateM
    split <;> (split <;> omega)
  have st := month_step (dateY n) (dateM n) esh.2.2.1 esh.2.2.2
  rw [esh.1, esh.2.1] at st
  have hlen : dD n ≤ lenM (dateY n) (dateM n) := by
    by_cases h : dM n < 11
    · rw [st.1 h]; exact ms.2.2.2.2 h
    · have h11 : dM n = 11 := by omega
      rw [st.2 h11]
      rw [h11] at e
      omega
  refine ⟨⟨?_, ?_, ms.2.2.1, hlen⟩, ?_, esh.2.2⟩
  · unfold dateY
    split
    · omega
    · have hb : march (dM n) ≤ 275 := by unfold march; omega
      by_cases hy : yOf (n + 693901) = 1899
      · have : era 1899 = 693595 := by decide
        have hd : dD n ≤ 31 := ms.2.2.2.1
        unfold mBegin at e
        rw [hy] at e
        omega
      · omega
  · unfold dateY
    split
    · by_cases hy : yOf (n + 693901) = 2200
      · have e2 : era 2200 = 803533 := by decide
        have hm : 306 ≤ march (dM n) := by unfold march; omega
        unfold mBegin at e
        rw [hy] at e
        omega
      · omega
    · omega
  · unfold numD; rw [esh.1, esh.2.1]; unfold mBegin at e; omega

theorem numD_inj (y1 m1 d1 y2 m2 d2 : Int) (h1 : validD y1 m1 d1) (h2 : validD y2 m2 d2) (b1 : 1 ≤ m1 ∧ m1 ≤ 12) (b2 : 1 ≤ m2 ∧ m2 ≤ 12) (e : numD y1 m1 d1 = numD y2 m2 d2) : y1 = y2 ∧ m1 = m2 ∧ d1 = d2 := by
  obtain ⟨p1, p2, p3, p4⟩ := h1
  obtain ⟨q1, q2, q3, q4⟩ := h2
  have s1 := month_step y1 m1 b1.1 b1.2
  have s2 := month_step y2 m2 b2.1 b2.2
  have r1 : 0 ≤ shM m1 ∧ shM m1 ≤ 11 ∧ 12 * shY y1 m1 + shM m1 = 12 * y1 + m1 - 3 := by unfold shM shY; split <;> omega
  have r2 : 0 ≤ shM m2 ∧ shM m2 ≤ 11 ∧ 12 * shY y2 m2 + shM m2 = 12 * y2 + m2 - 3 := by unfold shM shY; split <;> omega
  have k1 : ¬ (12 * shY y1 m1 + shM m1 < 12 * shY y2 m2 + shM m2) := by
    intro h
    have := mBegin_lt _ _ _ _ ⟨r1.1, r1.2.1⟩ ⟨r2.1, r2.2.1⟩ h d1 ⟨fun h => by have := s1.1 h; omega, fun h => by have := s1.2 h; omega⟩
    unfold mBegin numD at *
    omega
  have k2 : ¬ (12 * shY y2 m2 + shM m2 < 12 * shY y1 m1 + shM m1) := by
    intro h
    have := mBegin_lt _ _ _ _ ⟨r2.1, r2.2.1⟩ ⟨r1.1, r1.2.1⟩ h d2 ⟨fun h => by have := s2.1 h; omega, fun h => by have := s2.2 h; omega⟩
    unfold mBegin numD at *
    omega
  have ey : y1 = y2 := by omega
  have em : m1 = m2 := by omega
  subst ey em
  refine ⟨rfl, rfl, ?_⟩
  unfold numD at e
  omega

theorem numD_bd (y m d : Int) (h : validD y m d) (b : 1 ≤ m ∧ m ≤ 12) : 0 ≤ numD y m d ∧ numD y m d < 109938 := by
  obtain ⟨p1, p2, p3, p4⟩ := h
  have s := month_step y m b.1 b.2
  have hl := lenM_bd y m
  have r : 0 ≤ shM m ∧ shM m ≤ 11 ∧ 12 * shY y m + shM m = 12 * y + m - 3 := by unfold shM shY; split <;> omega
  have e1 : mBegin 1899 10 = 693901 := by decide
  have e2 : mBegin 2200 9 = 803808 := by decide
  have e3 : march 10 - march 9 = 31 := by decide
  constructor
  · by_cases h : 12 * 1899 + 10 < 12 * shY y m + shM m
    · have := mBegin_lt 1899 10 _ _ (by omega) ⟨r.1, r.2.1⟩ h 0 ⟨fun _ => by decide, fun _ => by omega⟩
      unfold mBegin numD at *; omega
    · have a1 : shY y m = 1899 := by omega
      have a2 : shM m = 10 := by omega
      unfold mBegin at e1
      unfold numD; rw [a1, a2]; omega
  · by_cases h : 12 * shY y m + shM m < 12 * 2200 + 9
    · have := mBegin_lt _ _ 2200 9 ⟨r.1, r.2.1⟩ (by omega) h d ⟨fun h => by have := s.1 h; omega, fun h => by have := s.2 h; omega⟩
      unfold mBegin numD at *; omega
    · have a1 : shY y m = 2200 := by omega
      have a2 : shM m = 9 := by omega
      unfold mBegin at e2
      unfold numD; rw [a1, a2]; omega

theorem date_of_num (y m d : Int) (h : validD y m d) (b : 1 ≤ m ∧ m ≤ 12) : dateY (numD y m d) = y ∧ dateM (numD y m d) = m ∧ dD (numD y m d) = d := by
  have nb := numD_bd y m d h b
  have dv := date_valid _ nb.1 nb.2
  exact numD_inj _ _ _ _ _ _ dv.1 h dv.2.2 b dv.2.1

theorem valid_month (y m d : Int) (h : validD y m d) : 1 ≤ m ∧ m ≤ 12 := by
  obtain ⟨p1, p2, p3, p4⟩ := h
  by_cases hm : m < 1 ∨ 12 < m
  · rw [lenM_out y m hm] at p4; omega
  · omega

/-- Days ahead of a year's first day, from 1900 on; days of a year ahead of a month's first day. -/
def dby (y : Int) : Int := numD y 1 1
def cumM (y m : Int) : Int := numD y m 1 - numD y 1 1
theorem dby_step (y : Int) : dby (y + 1) = dby y + 365 + leapN y := by
  have := era_leap (y - 1)
  rw [show y - 1 + 1 = y from by omega] at this
  have e1 : ∀ z, shY z 1 = z - 1 := by intro z; unfold shY; rw [if_pos (by omega)]
  simp only [dby, numD, e1]
  rw [show y + 1 - 1 = y from by omega]
  omega
theorem dby_0 : dby 1900 = 0 := by decide
theorem cumM_0 (y : Int) : cumM y 1 = 0 := by unfold cumM; omega
theorem cumM_step (y m : Int) (h1 : 1 ≤ m) (h2 : m < 12) : cumM y (m + 1) = cumM y m + lenM y m := by
  have hl := era_leap (y - 1)
  rw [show y - 1 + 1 = y from by omega] at hl
  have hm : m = 1 ∨ m = 2 ∨ m = 3 ∨ m = 4 ∨ m = 5 ∨ m = 6 ∨ m = 7 ∨ m = 8 ∨ m = 9 ∨ m = 10 ∨ m = 11 := by omega
  rcases hm with rfl | rfl | rfl | rfl | rfl | rfl | rfl | rfl | rfl | rfl | rfl <;>
    simp [cumM, numD, shM, shY, lenM, march] <;> omega
theorem numD_cum (y m d : Int) : numD y m d = dby y + cumM y m + d - 1 := by unfold dby cumM numD; omega
theorem cum_year (y : Int) : cumM y 12 + lenM y 12 = 365 + leapN y := by
  have hl := era_leap (y - 1)
  rw [show y - 1 + 1 = y from by omega] at hl
  have e1 : shY y 1 = y - 1 := by unfold shY; rw [if_pos (by omega)]
  have e2 : shM 1 = 10 := by unfold shM; rw [if_pos (by omega)]; rfl
  have e3 : shY y 12 = y := by unfold shY; rw [if_neg (by omega)]
  have e4 : shM 12 = 9 := by unfold shM; rw [if_neg (by omega)]; rfl
  have e5 : lenM y 12 = 31 := by unfold lenM; rw [if_neg (by omega), if_neg (by omega), if_pos (by omega)]
  have e6 : march 10 - march 9 = 31 := by decide
  simp only [cumM, numD, e1, e2, e3, e4, e5]
  omega
end Go.Proofs.YtcleicjgeflbnaaGreatDoor
namespace Go.Proofs.YtcleicjgeflbnaaGreatDoor
open Go.RowKit
set_option linter.all false

def leapB (y : Int) : Bool := (y % 4 == 0 && y % 100 != 0) || y % 400 == 0

theorem leapN_b (y : Int) : leapN y = if leapB y = true then 1 else 0 := by
  unfold leapN leapB
  simp only [Bool.or_eq_true, Bool.and_eq_true, beq_iff_eq, bne_iff_ne]

theorem ret_b {a b : Bool} (h : a = b) : Ending.returned (.bool a) = Ending.returned (.bool b) := by rw [h]

theorem leap_any (y : Int) (h0 : 0 ≤ y) (h1 : y ≤ 100000) (w : World) :
    Calls Tryz.prog 144 #[.int .i64 y] w fun e w' => e = .returned (.bool (leapB y)) ∧ w = w' := by
  have H : leapB y = ((y % 4 == 0 && y % 100 != 0) || y % 400 == 0) := rfl
  have n1 : (y % 100 != 0) = !(y % 100 == 0) := rfl
  cases h4 : (y % 4 == 0) <;> cases h100 : (y % 100 == 0) <;> cases h400 : (y % 400 == 0) <;>
  · rw [h100] at n1
    rw [h4, n1, h400] at H
    have H' := Lib.hid H
    clear H
    simp only [Bool.not_false, Bool.not_true] at n1
    go_enter Tryz.func144, Tryz.ntmps144
    go_wp2
    go_ret
    exact ⟨ret_b H'.out.symm, rfl⟩

theorem refLeap_any (y : Int) (h0 : 0 ≤ y) (h1 : y ≤ 100000) (w : World) :
    Calls Tryz.prog 75 #[.int .i64 y] w fun e w' => e = .returned (.bool (leapB y)) ∧ w = w' := by
  have H : leapB y = ((y % 4 == 0 && y % 100 != 0) || y % 400 == 0) := rfl
  have n1 : (y % 100 != 0) = !(y % 100 == 0) := rfl
  cases h4 : (y % 4 == 0) <;> cases h100 : (y % 100 == 0) <;> cases h400 : (y % 400 == 0) <;>
  · rw [h100] at n1
    rw [h4, n1, h400] at H
    have H' := Lib.hid H
    clear H
    simp only [Bool.not_false, Bool.not_true] at n1
    go_enter Tryz.func75, Tryz.ntmps75
    go_wp2
    go_ret
    exact ⟨ret_b H'.out.symm, rfl⟩

theorem length_any (y m : Int) (h0 : 0 ≤ y) (h1 : y ≤ 100000) (hm0 : 0 ≤ m) (hm1 : m ≤ 10000) (w : World) :
    Calls Tryz.prog 133 #[.int .i64 y, .int .i64 m] w fun e w' => e = .returned (.int .i64 (lenM y m)) ∧ w = w' := by
  by_cases hm : 1 ≤ m ∧ m ≤ 12
  · have hm : m = 1 ∨ m = 2 ∨ m = 3 ∨ m = 4 ∨ m = 5 ∨ m = 6 ∨ m = 7 ∨ m = 8 ∨ m = 9 ∨ m = 10 ∨ m = 11 ∨ m = 12 := by omega
    have hl := leapN_b y
    have D := Lib.hid (fun w => leap_any y h0 h1 w)
    have HL := Lib.hid hl
    clear hl
    cases hb : leapB y <;> rw [hb] at D HL <;> clear hb <;>
    (rcases hm with rfl | rfl | rfl | rfl | rfl | rfl | rfl | rfl | rfl | rfl | rfl | rfl <;>
    · go_enter Tryz.func133, Tryz.ntmps133
      go_wp2_with (go_at_call 144; (with_reducible refine (D.out _).mono ?_); rintro e w' ⟨rfl, rfl⟩)
      go_ret
      exact ⟨ret_i (by have := HL.out; simp [lenM, this]), rfl⟩)
  · have e := lenM_out y m (by omega)
    have E := Lib.hid e
    have hs : (m == 1) = false ∧ (m == 2) = false ∧ (m == 3) = false ∧ (m == 4) = false ∧ (m == 5) = false ∧ (m == 6) = false ∧ (m == 7) = false ∧ (m == 8) = false ∧ (m == 9) = false ∧ (m == 10) = false ∧ (m == 11) = false ∧ (m == 12) = false := by
      refine ⟨?_, ?_, ?_, ?_, ?_, ?_, ?_, ?_, ?_, ?_, ?_, ?_⟩ <;> (rw [beq_eq_false_iff_ne]; omega)
    obtain ⟨t1, t2, t3, t4, t5, t6, t7, t8, t9, t10, t11, t12⟩ := hs
    clear e hm
    go_enter Tryz.func133, Tryz.ntmps133
    go_wp2
    go_ret
    exact ⟨ret_i E.out.symm, rfl⟩

theorem below_drewN_c {B : Nat} {a w : World} (h : Below B a w) (n : Nat) : Below B a (w.drewN n) := ⟨h.os, h.tape, h.output, h.size, h.block⟩

theorem ret_ii {a b c d : Int} (h : a = c ∧ b = d) : Ending.returned (.tuple #[.int .i64 a, .int .i64 b]) = Ending.returned (.tuple #[.int .i64 c, .int .i64 d]) := by rw [h.1, h.2]

theorem shifted_any (y m d : Int) (h0 : 0 ≤ y) (h1 : y ≤ 100000) (hm0 : 0 ≤ m) (hm1 : m ≤ 10000) (w : World) :
    Calls Tryz.prog 116 #[.agg #[.int .i64 y, .int .i64 m, .int .i64 d]] w fun e w' => e = .returned (.tuple #[.int .i64 (shY y m), .int .i64 (shM m)]) ∧ Below w.heap.size w w' := by
  by_cases h : m < 3
  · have H := Lib.hid (show y - 1 = shY y m ∧ m + 9 = shM m by unfold shY shM; rw [if_pos h, if_pos h]; exact ⟨rfl, rfl⟩)
    go_enter Tryz.func116, Tryz.ntmps116
    go_wp2
    go_quiet (fail)
    go_wp2
    go_ret2
    exact ⟨ret_ii H.out, below_drewN_c ((Below.refl _ _).alloc (Nat.le_refl _) _) _⟩
  · have H := Lib.hid (show y = shY y m ∧ m - 3 = shM m by unfold shY shM; rw [if_neg h, if_neg h]; exact ⟨rfl, rfl⟩)
    go_enter Tryz.func116, Tryz.ntmps116
    go_wp2
    go_quiet (fail)
    go_wp2
    go_ret2
    exact ⟨ret_ii H.out, below_drewN_c ((Below.refl _ _).alloc (Nat.le_refl _) _) _⟩

theorem quiet_eq {P : Program} {f : Nat} {args : Array Value} {w : World} {v : Value} (h : Calls P f args w fun e w' => e = .returned v ∧ w = w') :
    Calls P f args w fun e w' => e = .returned v ∧ w' = w := h.mono fun _ _ ⟨a, b⟩ => ⟨a, b.symm⟩

set_option maxHeartbeats 2000000 in
theorem may_any_c (y m d : Int) (h0 : 0 ≤ y) (h1 : y ≤ 10000) (hm0 : 0 ≤ m) (hm1 : m ≤ 10000) (b : Bool) (hb : b = true ↔ validD y m d) (w : World) :
    Calls Tryz.prog 115 #[.agg #[.int .i64 y, .int .i64 m, .int .i64 d]] w fun e w' => e = .returned (.bool b) ∧ Below w.heap.size w w' := by
  have hbd := lenM_bd y m
  have D := Lib.hid (fun w => quiet_eq (length_any y m (by omega) (by omega) hm0 hm1 w))
  by_cases v1 : 1900 ≤ y
  · by_cases v2 : y ≤ 2200
    · by_cases v3 : 1 ≤ d
      · have hb' : b = decide (d ≤ lenM y m) := by
          rw [Bool.eq_iff_iff, hb, decide_eq_true_iff]; unfold validD; omega
        have Hb := Lib.hid hb'.symm
        clear hb hb'
        go_enter Tryz.func115, Tryz.ntmps115
        go_wp2
        go_quiet ((go_at_call 133; exact Calls.quiet_of_same (D.out _)))
        go_wp2
        go_ret
        exact ⟨ret_b Hb.out, below_drewN_c ((Below.refl _ _).alloc (Nat.le_refl _) _) _⟩
      · have hb' : b = false := by
          rw [Bool.eq_false_iff]; intro e; have := hb.1 e; unfold validD at this; omega
        subst hb'
        have h3 : decide (1 ≤ d) = false := decide_eq_false v3
        clear hb
        go_enter Tryz.func115, Tryz.ntmps115
        go_wp2
        go_quiet (fail)
        go_wp2
        go_ret
        exact ⟨rfl, below_drewN_c ((Below.refl _ _).alloc (Nat.le_refl _) _) _⟩
    · have hb' : b = false := by
        rw [Bool.eq_false_iff]; intro e; have := hb.1 e; unfold validD at this; omega
      subst hb'
      have h3 : decide (y ≤ 2200) = false := decide_eq_false v2
      clear hb
      go_enter Tryz.func115, Tryz.ntmps115
      go_wp2
      go_quiet (fail)
      go_wp2
      go_ret
      exact ⟨rfl, below_drewN_c ((Below.refl _ _).alloc (Nat.le_refl _) _) _⟩
  · have hb' : b = false := by
      rw [Bool.eq_false_iff]; intro e; have := hb.1 e; unfold validD at this; omega
    subst hb'
    have h3 : decide (1900 ≤ y) = false := decide_eq_false v1
    clear hb
    go_enter Tryz.func115, Tryz.ntmps115
    go_wp2
    go_quiet (fail)
    go_wp2
    go_ret
    exact ⟨rfl, below_drewN_c ((Below.refl _ _).alloc (Nat.le_refl _) _) _⟩

set_option maxHeartbeats 2000000 in
theorem number_no (y m d : Int) (h0 : 0 ≤ y) (h1 : y ≤ 10000) (hm0 : 0 ≤ m) (hm1 : m ≤ 10000) (hb : ¬ validD y m d) (w : World) :
    Calls Tryz.prog 90 #[.agg #[.int .i64 y, .int .i64 m, .int .i64 d]] w fun e w' => e = .returned (.tuple #[.int .i64 0, .bool false]) ∧ Below w.heap.size w w' := by
  have D := Lib.hid (fun w => may_any_c y m d h0 h1 hm0 hm1 false (by simp [hb]) w)
  clear hb
  go_enter Tryz.func90, Tryz.ntmps90
  go_wp2_with fail
  (with_reducible refine (D.out _).mono ?_)
  rintro e w1 ⟨rfl, hb1⟩
  go_wp2
  go_ret2
  exact ⟨rfl, below_callA ((Below.refl _ _).alloc (Nat.le_refl _) _) hb1⟩

set_option maxHeartbeats 2000000 in
theorem number_yes (y m d : Int) (hb : validD y m d) (w : World) :
    Calls Tryz.prog 90 #[.agg #[.int .i64 y, .int .i64 m, .int .i64 d]] w fun e w' => e = .returned (.tuple #[.int .i64 (numD y m d), .bool true]) ∧ Below w.heap.size w w' := by
  have hm := valid_month y m d hb
  have hv := hb
  obtain ⟨v1, v2, v3, v4⟩ := hv
  have hbd := lenM_bd y m
  have hnb := numD_bd y m d hb hm
  have D := Lib.hid (fun w => may_any_c y m d (by omega) (by omega) (by omega) (by omega) true (by simp [hb]) w)
  have D2 := Lib.hid (fun w => shifted_any y m d (by omega) (by omega) (by omega) (by omega) w)
  have hs : 0 ≤ shY y m ∧ shY y m ≤ 3000 ∧ 0 ≤ shM m ∧ shM m ≤ 11 := by unfold shY shM; split <;> omega
  obtain ⟨s1, s2, s3, s4⟩ := hs
  have he1 : 0 ≤ era (shY y m) := by unfold era; omega
  have he2 : era (shY y m) ≤ 2000000 := by unfold era; omega
  have he3 : 0 ≤ march (shM m) := by unfold march; omega
  have he4 : march (shM m) ≤ 400 := by unfold march; omega
  clear hb
  go_enter Tryz.func90, Tryz.ntmps90
  go_wp2_with fail
  (with_reducible refine (D.out _).mono ?_)
  rintro e w1 ⟨rfl, hb1⟩
  have hc : w1.cell? ⟨w.heap.size, 0, none⟩ = some (.int .i64 y) ∧ w1.cell? ⟨w.heap.size, 1, none⟩ = some (.int .i64 m) ∧ w1.cell? ⟨w.heap.size, 2, none⟩ = some (.int .i64 d) := by
    refine ⟨?_, ?_, ?_⟩ <;> (rw [hb1.cell (by simp)]; simp [go_sem])
  obtain ⟨c1, c2, c3⟩ := hc
  have hz1 : w.heap.size < w1.heap.size := by have := hb1.size; simp at this; omega
  go_wp2_with fail
  (with_reducible refine (D2.out _).mono ?_)
  rintro e w2 ⟨rfl, hb2⟩
  have c3' : w2.cell? ⟨w.heap.size, 2, none⟩ = some (.int .i64 d) := by rw [hb2.cell (by exact hz1)]; exact c3
  go_wp2
  go_quiet (first | (go_at_call 103; exact Calls.quiet_of_same (quiet_eq (era_any _ (by omega) (by omega) _))) | (go_at_call 104; exact Calls.quiet_of_same (quiet_eq (march_any _ (by omega) (by omega) _))) | (go_at_call 102; exact Calls.quiet_of_same (quiet_eq (first_any _))))
  go_wp2
  go_ret2
  exact ⟨rfl, below_drewN_c (below_callA (below_callA ((Below.refl _ _).alloc (Nat.le_refl _) _) hb1) hb2 (by omega)) _⟩
end Go.Proofs.YtcleicjgeflbnaaGreatDoor
namespace Go.Proofs.YtcleicjgeflbnaaGreatDoor
open Go.RowKit
set_option linter.all false

set_option maxHeartbeats 2000000 in
theorem refLength_any (y m : Int) (h0 : 0 ≤ y) (h1 : y ≤ 100000) (hm0 : 1 ≤ m) (hm1 : m ≤ 12) (w : World) :
    Calls Tryz.prog 76 #[.int .i64 y, .int .i64 m] w fun e w' => e = .returned (.int .i64 (lenM y m)) ∧ Below w.heap.size w w' := by
  have hm : m = 1 ∨ m = 2 ∨ m = 3 ∨ m = 4 ∨ m = 5 ∨ m = 6 ∨ m = 7 ∨ m = 8 ∨ m = 9 ∨ m = 10 ∨ m = 11 ∨ m = 12 := by omega
  have hl := leapN_b y
  have D := Lib.hid (fun w => refLeap_any y h0 h1 w)
  have HL := Lib.hid hl
  clear hl hm0 hm1
  cases hb : leapB y <;> rw [hb] at D HL <;> clear hb <;>
  (rcases hm with rfl | rfl | rfl | rfl | rfl | rfl | rfl | rfl | rfl | rfl | rfl | rfl <;>
  · go_enter Tryz.func76, Tryz.ntmps76
    go_wp2_with (go_at_call 75; (with_reducible refine (D.out _).mono ?_); rintro e w' ⟨rfl, rfl⟩)
    go_ret
    exact ⟨ret_i (by have := HL.out; simp [lenM, this]), (Below.refl _ _).alloc (Nat.le_refl _) _⟩)

def valV (s : ByteArray) : Int := match numB s.data.toList 0 with
  | some n => n
  | none => -1

end Go.Proofs.YtcleicjgeflbnaaGreatDoor
namespace Go.Proofs.YtcleicjgeflbnaaGreatDoor
open Go.RowKit
set_option linter.all false

theorem dby_bd (y : Int) (h0 : 1900 ≤ y) (h1 : y ≤ 2300) : 0 ≤ dby y ∧ dby y ≤ 200000 := by
  unfold dby numD shY shM era march
  simp
  omega

theorem cumM_bd (y m : Int) (h0 : 1 ≤ m) (h1 : m ≤ 12) : 0 ≤ cumM y m ∧ cumM y m ≤ 366 := by
  have hl := era_leap (y - 1)
  have hb := leapN_bd y
  rw [show y - 1 + 1 = y from by omega] at hl
  have hm : m = 1 ∨ m = 2 ∨ m = 3 ∨ m = 4 ∨ m = 5 ∨ m = 6 ∨ m = 7 ∨ m = 8 ∨ m = 9 ∨ m = 10 ∨ m = 11 ∨ m = 12 := by omega
  rcases hm with rfl | rfl | rfl | rfl | rfl | rfl | rfl | rfl | rfl | rfl | rfl | rfl <;>
    simp [cumM, numD, shM, shY, march] <;> omega

theorem ret_date {a b c a' b' c' : Int} {o : Value} (h : a = a' ∧ b = b' ∧ c = c') : Ending.returned (.tuple #[.agg #[.int .i64 a, .int .i64 b, .int .i64 c], o]) = Ending.returned (.tuple #[.agg #[.int .i64 a', .int .i64 b', .int .i64 c'], o]) := by rw [h.1, h.2.1, h.2.2]

theorem ret_ib {a b : Int} {c : Bool} (h : a = b) : Ending.returned (.tuple #[.int .i64 a, .bool c]) = Ending.returned (.tuple #[.int .i64 b, .bool c]) := by rw [h]

set_option maxHeartbeats 4000000 in
theorem refDate_yes (n : Int) (h0 : 0 ≤ n) (h1 : n < 109938) (w : World) :
    Calls Tryz.prog 54 #[.int .i64 n] w fun e w' => e = .returned (.tuple #[.agg #[.int .i64 (dateY n), .int .i64 (dateM n), .int .i64 (dD n)], .bool true]) ∧ Below w.heap.size w w' := by
  have h2 : ¬ n < 0 := by omega
  have h3 : ¬ 109937 < n := by omega
  have hend : dby 2201 = 109938 := by decide
  go_enter Tryz.func54, Tryz.ntmps54
  go_wp2
  go_loop [0, 4, 5] (fun a b c => ∃ x : Int, 1900 ≤ x ∧ x ≤ 2200 ∧ 0 ≤ n - dby x ∧ a = .int .i64 (n - dby x) ∧ b = .int .i64 x)
    (fun _ b _ => (2201 - intOf b).toNat)
  case atStart => exact ⟨1900, by omega, by omega, by rw [dby_0]; omega, by rw [dby_0]; congr 1; omega, rfl⟩
  case round =>
    obtain ⟨x, hx0, hx1, hx2, rfl, rfl⟩ := hrel
    have hs := dby_step x
    have hl := leapN_b x
    have hdb := dby_bd x hx0 (by omega)
    obtain ⟨hdb0, hdb1⟩ := hdb
    have DL := Lib.hid (fun w => refLeap_any x (by omega) (by omega) w)
    by_cases hk : n - dby x < 365 + leapN x
    · have hcy := cum_year x
      cases hlb : leapB x <;> rw [hlb] at hl DL <;> simp only [Bool.false_eq_true, if_false, if_true] at hl <;> rw [hl] at hk hcy <;> have Hcy := Lib.hid hcy <;> clear hs hl hlb hcy hend <;> simp only [Int.add_zero, Int.reduceAdd] at hk
      all_goals
        go_wp2_with (go_at_call 75; (with_reducible refine (DL.out _).mono ?_); rintro e w' ⟨rfl, rfl⟩)
        go_loopw [0, 6] (fun a b wr => ∃ m : Int, 1 ≤ m ∧ m ≤ 12 ∧ 0 ≤ n - dby x - cumM x m ∧ a = .int .i64 (n - dby x - cumM x m) ∧ b = .int .i64 m ∧ wr.heap[w.heap.size]? = some (.cells #[.int .i64 0, .int .i64 0, .int .i64 0] 67 (0, 0)) ∧ Below w.heap.size w wr)
          (fun _ b _ => (12 - intOf b).toNat)
        case atStart => exact ⟨1, by omega, by omega, by rw [cumM_0]; omega, by rw [cumM_0]; congr 1; omega, rfl, heap_alloc_new w _, (Below.refl _ _).alloc (Nat.le_refl _) _⟩
        case round =>
          obtain ⟨m, hm0, hm1, hm2, rfl, rfl, hheap, hB⟩ := hrel
          have hlm := lenM_bd x m
          obtain ⟨hlm0, hlm1⟩ := hlm
          have hzz : w.heap.size < wr.heap.size := by
            rcases Nat.lt_or_ge w.heap.size wr.heap.size with h | h
            · exact h
            · rw [Array.getElem?_eq_none h] at hheap; simp at hheap
          by_cases hc : n - dby x - cumM x m < lenM x m
          · have hv : validD x m (n - dby x - cumM x m + 1) := ⟨by omega, by omega, by omega, by omega⟩
            have hdv := date_valid n h0 h1
            have hnum : numD x m (n - dby x - cumM x m + 1) = n := by rw [numD_cum]; omega
            have hinj := numD_inj _ _ _ _ _ _ hv hdv.1 ⟨hm0, hm1⟩ hdv.2.2 (hnum.trans hdv.2.1.symm)
            have Hinj := Lib.hid hinj
            clear hv hdv hnum hinj
            go_wp2_with fail
            (with_reducible refine (refLength_any x m ?_ ?_ ?_ ?_ _).mono ?_) <;> try omega
            rintro e w2 ⟨rfl, hbb⟩
            have hh2 : w2.heap[w.heap.size]? = some (.cells #[.int .i64 0, .int .i64 0, .int .i64 0] 67 (0, 0)) := by rw [hbb.block _ hzz]; exact hheap
            have cs : ∀ i, i < 3 → w2.cell? ⟨w.heap.size, i, none⟩ = some (.int .i64 0) ∧ w2.frozen? ⟨w.heap.size, i, none⟩ = false := by
              intro i hi
              have : i = 0 ∨ i = 1 ∨ i = 2 := by omega
              rcases this with rfl | rfl | rfl <;> (constructor <;> simp [World.cell?, World.frozen?, hh2])
            obtain ⟨g0, f0⟩ := cs 0 (by omega)
            obtain ⟨g1, f1⟩ := cs 1 (by omega)
            obtain ⟨g2, f2⟩ := cs 2 (by omega)
            clear cs hh2 hheap
            go_wp2
            refine bodyPost_ret (v := .tuple #[.agg #[.int .i64 x, .int .i64 m, .int .i64 (n - dby x - cumM x m + 1)], .bool true]) ?_ rfl ⟨ret_date Hinj.out, ?_⟩
            · simp [results, Tryz.results54, go_sem, g0, g1, g2]
            · have := below_callA hB hbb
              repeat (first | exact this | refine Below.setCell ?_ (by simp) _)
          · have hm12 : m ≠ 12 := by
              rintro rfl
              have := Hcy.out
              omega
            have hst := cumM_step x m hm0 (by omega)
            have Hst := Lib.hid hst
            have hcm := cumM_bd x m hm0 hm1
            have hq1 : 0 ≤ n - dby x - cumM x m - lenM x m := by omega
            have hq2 : n - dby x - cumM x m - lenM x m ≤ 366 := by omega
            clear hst hcm
            go_wp2_with fail
            (with_reducible refine (refLength_any x m ?_ ?_ ?_ ?_ _).mono ?_) <;> try omega
            rintro e w2 ⟨rfl, hbb⟩
            go_wp2_with fail
            (with_reducible refine (refLength_any x m ?_ ?_ ?_ ?_ _).mono ?_) <;> try omega
            rintro e w3 ⟨rfl, hbb3⟩
            have hh3 : w3.heap[w.heap.size]? = some (.cells #[.int .i64 0, .int .i64 0, .int .i64 0] 67 (0, 0)) := by
              rw [hbb3.block _ (by have := hbb.size; omega), hbb.block _ hzz]; exact hheap
            have Hh3 := Lib.hid hh3
            clear hh3 hheap
            go_wp2
            go_roundw
            case rel => exact ⟨m + 1, by omega, by omega, by rw [Hst.out]; omega, by rw [Hst.out]; congr 1; omega, rfl, Hh3.out, below_callA (below_callA hB hbb) hbb3⟩
            case measure => simp [intOf]; omega
    · have hlast : x ≠ 2200 := by
        rintro rfl
        rw [show (2200 : Int) + 1 = 2201 from rfl, hend] at hs
        omega
      cases hlb : leapB x <;> rw [hlb] at hl DL <;> simp only [Bool.false_eq_true, if_false, if_true] at hl <;> rw [hl] at hs hk <;> have Hs := Lib.hid hs <;> clear hs hl hlb
      all_goals
        go_wp2_with (go_at_call 75; (with_reducible refine (DL.out _).mono ?_); rintro e w' ⟨rfl, rfl⟩)
        go_round
        case rel => exact ⟨x + 1, by omega, by omega, by rw [Hs.out]; omega, by rw [Hs.out]; congr 1; omega, rfl⟩
        case measure => simp [intOf]; omega
end Go.Proofs.YtcleicjgeflbnaaGreatDoor
namespace Go.Proofs.YtcleicjgeflbnaaGreatDoor
open Go.RowKit
set_option linter.all false

set_option maxHeartbeats 4000000 in
theorem refStamp_tail (x n : Int) (hx : 0 ≤ x ∧ x < 109938) (h0 : 0 ≤ n) (h1 : n ≤ 158310720) (hn : sDay n = x) (w : World) :
    Calls Tryz.prog 23 #[.int .i64 n] w fun e w' => e = .returned (.string (strOfNums (stampText n))) ∧ Below w.heap.size w w' := by
  have hb := date_bd x (by omega) (by omega)
  have s1 := strOfNums_size (digs (dateY x) 4)
  have s2 := strOfNums_size (digs (dateM x) 2)
  have s3 := strOfNums_size (digs (dD x) 2)
  have s4 := strOfNums_size (minText (sMin n))
  rw [digs_length] at s1 s2 s3
  have s5 : (minText (sMin n)).length = 5 := by simp [minText, digs_length]
  rw [s5] at s4
  have hfin : strOfNums (digs (dateY x) 4) ++ ⟨#[45]⟩ ++ strOfNums (digs (dateM x) 2) ++ ⟨#[45]⟩ ++ strOfNums (digs (dD x) 2) ++ ⟨#[84]⟩ ++ strOfNums (minText (sMin n)) = strOfNums (stampText n) := by
    rw [show (⟨#[45]⟩ : ByteArray) = strOfNums [45] from rfl, show (⟨#[84]⟩ : ByteArray) = strOfNums [84] from rfl]
    simp only [strOfNums_append, stampText, hn, List.append_assoc, List.cons_append, List.nil_append]
  have Hfin := Lib.hid hfin
  clear hfin s5
  have hday : n = 158310720 ∧ x = 109937 ∧ sMin n = 1440 ∨ n ≠ 158310720 ∧ x = n / 1440 ∧ sMin n = n % 1440 := by
    unfold sDay sMin at *; split at hn <;> simp_all
  rcases hday with ⟨e1, e2, e3⟩ | ⟨e1, e2, e3⟩
  · subst e1 e2
    rw [e3] at s4 Hfin
    clear e3 hn
    go_enter Tryz.func23, Tryz.ntmps23
    go_wp2_with fail
    refine (refDate_yes _ (by omega) (by omega) _).mono ?_
    rintro e w1 ⟨rfl, hb1⟩
    have hz0 := hb1.size
    go_wp2
    go_region_held3 (fun W => W.cell? ⟨w1.heap.size, 0, none⟩ = some (.int .i64 (dateY 109937)) ∧ W.cell? ⟨w1.heap.size, 1, none⟩ = some (.int .i64 (dateM 109937)) ∧ W.cell? ⟨w1.heap.size, 2, none⟩ = some (.int .i64 (dD 109937)) ∧ w1.heap.size < W.heap.size ∧ Below w.heap.size w W)
      (first
        | exact ⟨by simp [go_sem], by simp [go_sem], by simp [go_sem], by simp, (hb1.alloc hz0 _).drew⟩
        | (obtain ⟨q1, q2, q3, q4, q5⟩ := ‹_ ∧ _ ∧ _ ∧ _ ∧ Below _ _ _›; exact ⟨(hbb.cell (by exact q4)).trans q1, (hbb.cell (by exact q4)).trans q2, (hbb.cell (by exact q4)).trans q3, (by have := hbb.size; omega), below_callA q5 hbb⟩))
      (first | (go_at_call 53; (with_reducible refine (refNumber4 _ ?_ ?_ _).mono ?_); omega; omega; rintro e w' ⟨rfl, hbb⟩) | (go_at_call 53; (with_reducible refine (refNumber2 _ ?_ ?_ _).mono ?_); omega; omega; rintro e w' ⟨rfl, hbb⟩) | (go_at_call 55; (with_reducible refine (refMinute_any _ ?_ ?_ _).mono ?_); omega; omega; rintro e w' ⟨rfl, hbb⟩))
    go_wp2
    go_ret
    obtain ⟨q1, q2, q3, q4, q5⟩ := ‹_ ∧ _ ∧ _ ∧ _ ∧ Below _ _ _›
    exact ⟨ret_s Hfin.out, q5⟩
  · have He2 := Lib.hid e2
    rw [e3] at s4 Hfin
    have hx0 : 0 ≤ n / 1440 := by omega
    rw [e2] at hx hb s1 s2 s3 Hfin
    have hq : (n / 1440 == 109938) = false := by rw [beq_eq_false_iff_ne]; omega
    have hq' : ¬ n = 158310720 := e1
    clear e3 hn e2 e1
    go_enter Tryz.func23, Tryz.ntmps23
    go_wp2_with fail
    refine (refDate_yes _ (by omega) (by omega) _).mono ?_
    rintro e w1 ⟨rfl, hb1⟩
    have hz0 := hb1.size
    go_wp2
    go_region_held3 (fun W => W.cell? ⟨w1.heap.size, 0, none⟩ = some (.int .i64 (dateY (n / 1440))) ∧ W.cell? ⟨w1.heap.size, 1, none⟩ = some (.int .i64 (dateM (n / 1440))) ∧ W.cell? ⟨w1.heap.size, 2, none⟩ = some (.int .i64 (dD (n / 1440))) ∧ w1.heap.size < W.heap.size ∧ Below w.heap.size w W)
      (first
        | exact ⟨by simp [go_sem], by simp [go_sem], by simp [go_sem], by simp, (hb1.alloc hz0 _).drew⟩
        | (obtain ⟨q1, q2, q3, q4, q5⟩ := ‹_ ∧ _ ∧ _ ∧ _ ∧ Below _ _ _›; exact ⟨(hbb.cell (by exact q4)).trans q1, (hbb.cell (by exact q4)).trans q2, (hbb.cell (by exact q4)).trans q3, (by have := hbb.size; omega), below_callA q5 hbb⟩))
      (first | (go_at_call 53; (with_reducible refine (refNumber4 _ ?_ ?_ _).mono ?_); omega; omega; rintro e w' ⟨rfl, hbb⟩) | (go_at_call 53; (with_reducible refine (refNumber2 _ ?_ ?_ _).mono ?_); omega; omega; rintro e w' ⟨rfl, hbb⟩) | (go_at_call 55; (with_reducible refine (refMinute_any _ ?_ ?_ _).mono ?_); omega; omega; rintro e w' ⟨rfl, hbb⟩))
    go_wp2
    go_ret
    obtain ⟨q1, q2, q3, q4, q5⟩ := ‹_ ∧ _ ∧ _ ∧ _ ∧ Below _ _ _›
    exact ⟨ret_s Hfin.out, q5⟩

theorem refStamp_any (n : Int) (h0 : 0 ≤ n) (h1 : n ≤ 158310720) (w : World) :
    Calls Tryz.prog 23 #[.int .i64 n] w fun e w' => e = .returned (.string (strOfNums (stampText n))) ∧ Below w.heap.size w w' :=
  refStamp_tail (sDay n) n (by unfold sDay; split <;> omega) h0 h1 rfl w
end Go.Proofs.YtcleicjgeflbnaaGreatDoor
namespace Go.Proofs.YtcleicjgeflbnaaGreatDoor
open Go.RowKit
set_option linter.all false

instance validD_dec (y m d : Int) : Decidable (validD y m d) := by unfold validD; infer_instance

/-- What ReadStamp answers. -/
def rsF (s : ByteArray) : Int × Bool :=
  if s.size = 16 ∧ (s.data.toList.getD 4 0).toNat = 45 ∧ (s.data.toList.getD 7 0).toNat = 45 ∧ (s.data.toList.getD 10 0).toNat = 84 ∧
      (numV (s.extract 0 4)).2 = true ∧ (numV (s.extract 5 7)).2 = true ∧ (numV (s.extract 8 10)).2 = true ∧ (rmF (s.extract 11 16)).2 = true ∧
      validD (numV (s.extract 0 4)).1 (numV (s.extract 5 7)).1 (numV (s.extract 8 10)).1 ∧
      ¬ ((rmF (s.extract 11 16)).1 = 1440 ∧ numD (numV (s.extract 0 4)).1 (numV (s.extract 5 7)).1 (numV (s.extract 8 10)).1 < 109937)
  then (numD (numV (s.extract 0 4)).1 (numV (s.extract 5 7)).1 (numV (s.extract 8 10)).1 * 1440 + (rmF (s.extract 11 16)).1, true) else (0, false)

theorem rs_ret {s : ByteArray} {n : Int} {b : Bool} (h : rsF s = (n, b)) :
    Ending.returned (.tuple #[.int .i64 n, .bool b]) = Ending.returned (.tuple #[.int .i64 (rsF s).1, .bool (rsF s).2]) := by rw [h]

theorem rmF_bd (s : ByteArray) : 0 ≤ (rmF s).1 ∧ (rmF s).1 ≤ 1440 := by
  cases h : rmF s with
  | mk n b =>
    cases b with
    | true => have := rmF_true s n h; exact ⟨this.1, this.2.1⟩
    | false =>
      unfold rmF at h
      split at h
      · simp at h
      · simp at h; simp [← h]

theorem civilNumber_any (y m d : Int) (h0 : 0 ≤ y) (h1 : y ≤ 10000) (hm0 : 0 ≤ m) (hm1 : m ≤ 10000) (n : Int) (b : Bool)
    (h : (n, b) = if validD y m d then (numD y m d, true) else (0, false)) (w : World) :
    Calls Tryz.prog 90 #[.agg #[.int .i64 y, .int .i64 m, .int .i64 d]] w fun e w' => e = .returned (.tuple #[.int .i64 n, .bool b]) ∧ Below w.heap.size w w' := by
  by_cases hv : validD y m d
  · rw [if_pos hv] at h
    simp only [Prod.mk.injEq] at h
    obtain ⟨rfl, rfl⟩ := h
    exact number_yes y m d hv w
  · rw [if_neg hv] at h
    simp only [Prod.mk.injEq] at h
    obtain ⟨rfl, rfl⟩ := h
    exact number_no y m d h0 h1 hm0 hm1 hv w

set_option maxHeartbeats 8000000 in
theorem readStamp_any (s : ByteArray) (w : World) :
    Calls Tryz.prog 70 #[.string s] w fun e w' => e = .returned (.tuple #[.int .i64 (rsF s).1, .bool (rsF s).2]) ∧ Below w.heap.size w w' := by
  by_cases h16 : s.size = 16
  · have hg4 := getD_get s 4 (by omega)
    have hg7 := getD_get s 7 (by omega)
    have hg10 := getD_get s 10 (by omega)
    by_cases h4 : (s[4]'(by omega)).toNat = 45
    · by_cases h7 : (s[7]'(by omega)).toNat = 45
      · by_cases h10 : (s[10]'(by omega)).toNat = 84
        · obtain ⟨y, o1, e1⟩ : ∃ x o, numV (s.extract 0 4) = (x, o) := ⟨_, _, rfl⟩
          obtain ⟨m, o2, e2⟩ : ∃ x o, numV (s.extract 5 7) = (x, o) := ⟨_, _, rfl⟩
          obtain ⟨d, o3, e3⟩ : ∃ x o, numV (s.extract 8 10) = (x, o) := ⟨_, _, rfl⟩
          obtain ⟨t, o4, e4⟩ : ∃ x o, rmF (s.extract 11 16) = (x, o) := ⟨_, _, rfl⟩
          obtain ⟨n, o5, e5⟩ : ∃ n b, (n, b) = if validD y m d then (numD y m d, true) else ((0 : Int), false) := ⟨_, _, rfl⟩
          have D1 := Lib.hid (fun w => number_any_c (s.extract 0 4) (by simp; omega) w)
          have D2 := Lib.hid (fun w => number_any_c (s.extract 5 7) (by simp; omega) w)
          have D3 := Lib.hid (fun w => number_any_c (s.extract 8 10) (by simp; omega) w)
          have D4 := Lib.hid (fun w => readMin_any (s.extract 11 16) w)
          have b1 := numV_bd (s.extract 0 4) (by simp; omega)
          have b2 := numV_bd (s.extract 5 7) (by simp; omega)
          have b3 := numV_bd (s.extract 8 10) (by simp; omega)
          have b4 := rmF_bd (s.extract 11 16)
          rw [e1] at D1 b1
          rw [e2] at D2 b2
          rw [e3] at D3 b3
          rw [e4] at D4 b4
          obtain ⟨b11, b12⟩ := b1
          obtain ⟨b21, b22⟩ := b2
          obtain ⟨b31, b32⟩ := b3
          obtain ⟨b41, b42⟩ := b4
          simp only at b11 b12 b21 b22 b31 b32 b41 b42
          have D5 := Lib.hid (fun w => civilNumber_any y m d b11 (by omega) b21 (by omega) n o5 e5 w)
          have hn5 : 0 ≤ n ∧ n < 109938 ∧ (o5 = true ↔ validD y m d) ∧ (o5 = true → n = numD y m d) := by
            by_cases hv : validD y m d
            · have := numD_bd y m d hv (valid_month y m d hv)
              rw [if_pos hv] at e5
              simp only [Prod.mk.injEq] at e5
              obtain ⟨rfl, rfl⟩ := e5
              exact ⟨this.1, this.2, by simp [hv], fun _ => rfl⟩
            · rw [if_neg hv] at e5
              simp only [Prod.mk.injEq] at e5
              obtain ⟨rfl, rfl⟩ := e5
              exact ⟨by omega, by omega, by simp [hv], fun h => by simp at h⟩
          obtain ⟨n1, n2, n3, n4⟩ := hn5
          have hF : rsF s = if o1 = true ∧ o2 = true ∧ o3 = true ∧ o4 = true ∧ o5 = true ∧ ¬ (t = 1440 ∧ n < 109937) then (n * 1440 + t, true) else (0, false) := by
            unfold rsF; rw [e1, e2, e3, e4, hg4, hg7, hg10]
            by_cases hv : validD y m d
            · have ho := n3.2 hv
              have := n4 ho
              subst this ho
              simp [h16, h4, h7, h10, hv]
            · have ho : o5 = false := by cases o5 with
                | false => rfl
                | true => exact absurd (n3.1 rfl) hv
              simp [h16, h4, h7, h10, hv, ho]
          clear e1 e2 e3 e4 e5 hg4 hg7 hg10 n3 n4
          by_cases hok : o1 = true ∧ o2 = true ∧ o3 = true ∧ o4 = true ∧ o5 = true ∧ ¬ (t = 1440 ∧ n < 109937)
          · rw [if_pos hok] at hF
            have HF := Lib.hid hF
            obtain ⟨rfl, rfl, rfl, rfl, rfl, hlast⟩ := hok
            clear hF
            by_cases ht : t = 1440
            · have hnn : ¬ n < 109937 := fun h => hlast ⟨ht, h⟩
              have ht' : (t == 1440) = true := by simp [ht]
              have Ht := Lib.hid ht
              clear ht hlast
              go_enter Tryz.func70, Tryz.ntmps70
              go_wp2_with fail
              (with_reducible refine (D1.out _).mono ?_); rintro e w1 ⟨rfl, hb1⟩
              go_wp2_with fail
              (with_reducible refine (D2.out _).mono ?_); rintro e w2 ⟨rfl, hb2⟩
              go_wp2_with fail
              (with_reducible refine (D3.out _).mono ?_); rintro e w3 ⟨rfl, hb3⟩
              go_wp2_with fail
              (with_reducible refine (D4.out _).mono ?_); rintro e w4 ⟨rfl, hb4⟩
              go_wp2_with fail
              (with_reducible refine (D5.out _).mono ?_); rintro e w5 ⟨rfl, hb5⟩
              go_wp2_with fail
              go_ret2
              exact ⟨rs_ret HF.out, below_callA (below_callA (below_callA (below_callA hb1 hb2) hb3 (by have := hb1.size; have := hb2.size; omega)) hb4 (by have := hb1.size; have := hb2.size; have := hb3.size; omega)) hb5⟩
            · have ht' : (t == 1440) = false := by simp [ht]
              clear ht hlast
              go_enter Tryz.func70, Tryz.ntmps70
              go_wp2_with fail
              (with_reducible refine (D1.out _).mono ?_); rintro e w1 ⟨rfl, hb1⟩
              go_wp2_with fail
              (with_reducible refine (D2.out _).mono ?_); rintro e w2 ⟨rfl, hb2⟩
              go_wp2_with fail
              (with_reducible refine (D3.out _).mono ?_); rintro e w3 ⟨rfl, hb3⟩
              go_wp2_with fail
              (with_reducible refine (D4.out _).mono ?_); rintro e w4 ⟨rfl, hb4⟩
              go_wp2_with fail
              (with_reducible refine (D5.out _).mono ?_); rintro e w5 ⟨rfl, hb5⟩
              go_wp2_with fail
              go_ret2
              exact ⟨rs_ret HF.out, below_callA (below_callA (below_callA (below_callA hb1 hb2) hb3 (by have := hb1.size; have := hb2.size; omega)) hb4 (by have := hb1.size; have := hb2.size; have := hb3.size; omega)) hb5⟩
          · rw [if_neg hok] at hF
            have HF := Lib.hid hF
            have Hok := Lib.hid hok
            clear hF hok
            go_enter Tryz.func70, Tryz.ntmps70
            go_wp2_with fail
            (with_reducible refine (D1.out _).mono ?_); rintro e w1 ⟨rfl, hb1⟩
            go_wp2_with fail
            (with_reducible refine (D2.out _).mono ?_); rintro e w2 ⟨rfl, hb2⟩
            go_wp2_with fail
            (with_reducible refine (D3.out _).mono ?_); rintro e w3 ⟨rfl, hb3⟩
            go_wp2_with fail
            (with_reducible refine (D4.out _).mono ?_); rintro e w4 ⟨rfl, hb4⟩
            go_wp2_with fail
            (with_reducible refine (D5.out _).mono ?_); rintro e w5 ⟨rfl, hb5⟩
            go_wp2_with fail
            all_goals first
              | (go_ret2; exact ⟨rs_ret HF.out, below_callA (below_callA (below_callA (below_callA hb1 hb2) hb3 (by have := hb1.size; have := hb2.size; omega)) hb4 (by have := hb1.size; have := hb2.size; have := hb3.size; omega)) hb5⟩)
              | (exfalso; apply Hok.out; simp_all)
        · have hF : rsF s = (0, false) := by unfold rsF; rw [hg10, if_neg (by simp [h10])]
          have HF := Lib.hid hF
          clear hF hg4 hg7 hg10
          go_enter Tryz.func70, Tryz.ntmps70
          go_wp2
          go_ret2
          exact ⟨rs_ret HF.out, Below.refl _ _⟩
      · have hF : rsF s = (0, false) := by unfold rsF; rw [hg7, if_neg (by simp [h7])]
        have HF := Lib.hid hF
        clear hF hg4 hg7 hg10
        go_enter Tryz.func70, Tryz.ntmps70
        go_wp2
        go_ret2
        exact ⟨rs_ret HF.out, Below.refl _ _⟩
    · have hF : rsF s = (0, false) := by unfold rsF; rw [hg4, if_neg (by simp [h4])]
      have HF := Lib.hid hF
      clear hF hg4 hg7 hg10
      go_enter Tryz.func70, Tryz.ntmps70
      go_wp2
      go_ret2
      exact ⟨rs_ret HF.out, Below.refl _ _⟩
  · have hF : rsF s = (0, false) := by unfold rsF; rw [if_neg (by simp [h16])]
    have HF := Lib.hid hF
    clear hF
    have h' : (s.size == 16) = false := by simp [h16]
    go_enter Tryz.func70, Tryz.ntmps70
    go_wp2
    go_ret2
    exact ⟨rs_ret HF.out, Below.refl _ _⟩
end Go.Proofs.YtcleicjgeflbnaaGreatDoor
namespace Go.Proofs.YtcleicjgeflbnaaGreatDoor
open Go.RowKit
set_option linter.all false

def u8s (l : List Int) : List UInt8 := l.map fun n => UInt8.ofNat n.toNat

theorem numB_append (l : List UInt8) (c : UInt8) (hc : 48 ≤ c.toNat ∧ c.toNat ≤ 57) : ∀ acc, numB (l ++ [c]) acc = (numB l acc).map fun n => 10 * n + ((c.toNat : Int) - 48) := by
  induction l with
  | nil => intro acc; simp [numB, hc]
  | cons a l ih =>
    intro acc
    simp only [List.cons_append, numB]
    split
    · exact ih _
    · rfl

theorem numB_digs (k : Nat) : ∀ (x : Int), 0 ≤ x → x < 10 ^ k → numB (u8s (digs x k)) 0 = some x := by
  induction k with
  | zero => intro x h0 h1; simp at h1; simp [digs, u8s, numB]; omega
  | succ k ih =>
    intro x h0 h1
    have p : (10 : Int) ^ (k + 1) = 10 ^ k * 10 := Int.pow_succ _ _
    have e : u8s (digs x (k + 1)) = u8s (digs (x / 10) k) ++ [UInt8.ofNat (48 + x % 10).toNat] := by simp [u8s, digs]
    have hc : (UInt8.ofNat (48 + x % 10).toNat).toNat = (48 + x % 10).toNat := by rw [UInt8.toNat_ofNat']; omega
    rw [e, numB_append _ _ (by rw [hc]; omega), ih (x / 10) (by omega) (by omega), hc]
    simp only [Option.map_some, Option.some.injEq]
    omega

theorem numV_some (s : ByteArray) (l : List UInt8) (n : Int) (h : s.data.toList = l) (hl : l ≠ []) (hn : numB l 0 = some n) : numV s = (n, true) := by
  rw [numV_of s l h, hn]
  cases l with
  | nil => exact absurd rfl hl
  | cons a l => rfl

theorem stamp_parts (Y M D t : Int) (s : ByteArray) (hY : 0 ≤ Y ∧ Y < 10000) (hM : 0 ≤ M ∧ M < 100) (hD : 0 ≤ D ∧ D < 100)
    (hs : s = strOfNums (digs Y 4 ++ (45 :: (digs M 2 ++ (45 :: (digs D 2 ++ (84 :: minText t))))))) :
    s.size = 16 ∧ (s.data.toList.getD 4 0).toNat = 45 ∧ (s.data.toList.getD 7 0).toNat = 45 ∧ (s.data.toList.getD 10 0).toNat = 84 ∧
    numV (s.extract 0 4) = (Y, true) ∧ numV (s.extract 5 7) = (M, true) ∧ numV (s.extract 8 10) = (D, true) ∧ s.extract 11 16 = strOfNums (minText t) := by
  have hl : s.data.toList = u8s (digs Y 4) ++ (45 :: (u8s (digs M 2) ++ (45 :: (u8s (digs D 2) ++ (84 :: u8s (minText t)))))) := by
    rw [hs, strOfNums_data]
    simp only [u8s, List.map_append, List.map_cons]
    rfl
  have l4 : (u8s (digs Y 4)).length = 4 := by simp [u8s, digs_length]
  have l2 : (u8s (digs M 2)).length = 2 := by simp [u8s, digs_length]
  have l2' : (u8s (digs D 2)).length = 2 := by simp [u8s, digs_length]
  have l5 : (u8s (minText t)).length = 5 := by simp [u8s, minText, digs_length]
  have hnY := numB_digs 4 Y hY.1 (by omega)
  have hnM := numB_digs 2 M hM.1 (by omega)
  have hnD := numB_digs 2 D hD.1 (by omega)
  obtain ⟨a0, a1, a2, a3, eY⟩ : ∃ a b c d, u8s (digs Y 4) = [a, b, c, d] := by
    match u8s (digs Y 4), l4 with
    | [a, b, c, d], _ => exact ⟨a, b, c, d, rfl⟩
  obtain ⟨b0, b1, eM⟩ : ∃ a b, u8s (digs M 2) = [a, b] := by
    match u8s (digs M 2), l2 with
    | [a, b], _ => exact ⟨a, b, rfl⟩
  obtain ⟨c0, c1, eD⟩ : ∃ a b, u8s (digs D 2) = [a, b] := by
    match u8s (digs D 2), l2' with
    | [a, b], _ => exact ⟨a, b, rfl⟩
  obtain ⟨d0, d1, d2, d3, d4, et⟩ := list5 (u8s (minText t)) l5
  rw [eY] at hl hnY
  rw [eM] at hl hnM
  rw [eD] at hl hnD
  rw [et] at hl
  simp only [List.cons_append, List.nil_append] at hl
  refine ⟨?_, by rw [hl]; rfl, by rw [hl]; rfl, by rw [hl]; rfl, numV_some _ _ _ (by rw [extr, hl]; rfl) (by simp) hnY, numV_some _ _ _ (by rw [extr, hl]; rfl) (by simp) hnM, numV_some _ _ _ (by rw [extr, hl]; rfl) (by simp) hnD, ?_⟩
  · have : s.data.toList.length = 16 := by rw [hl]; rfl
    simpa using this
  · apply bytes_of
    rw [extr, hl]
    exact et.symm

/-- Digits are told back by their number. -/
theorem digs_of_numB (l : List UInt8) : ∀ n, numB l 0 = some n → l = u8s (digs n l.length) ∧ 0 ≤ n := by
  induction hlen : l.length generalizing l with
  | zero =>
    intro n h
    have : l = [] := List.length_eq_zero_iff.1 hlen
    subst this
    simp [numB] at h
    subst h
    exact ⟨rfl, by omega⟩
  | succ k ih =>
    intro n h
    obtain ⟨l', c, rfl⟩ : ∃ l' c, l = l' ++ [c] := by
      have hne : l ≠ [] := by intro e; subst e; simp at hlen
      exact ⟨l.dropLast, l.getLast hne, (List.dropLast_concat_getLast hne).symm⟩
    have hk : l'.length = k := by simpa using hlen
    by_cases hc : 48 ≤ c.toNat ∧ c.toNat ≤ 57
    · rw [numB_append l' c hc] at h
      cases hn : numB l' 0 with
      | none => rw [hn] at h; simp at h
      | some m =>
        rw [hn] at h
        simp only [Option.map_some, Option.some.injEq] at h
        have := ih l' hk m hn
        refine ⟨?_, by omega⟩
        have e1 : n / 10 = m := by omega
        have e2 : 48 + n % 10 = c.toNat := by omega
        rw [digs, e1, e2]
        simp only [u8s, List.map_append, List.map_cons, List.map_nil]
        have h3 := this.1
        unfold u8s at h3
        rw [← h3]
        simp
    · exfalso
      have : ∀ acc, numB (l' ++ [c]) acc = none := by
        clear h ih hlen hk
        induction l' with
        | nil => intro acc; simp [numB, hc]
        | cons a l' ih2 =>
          intro acc
          simp only [List.cons_append, numB]
          split
          · exact ih2 _
          · rfl
      rw [this] at h
      simp at h

theorem rsF_true (s : ByteArray) (n : Int) (h : rsF s = (n, true)) : 0 ≤ n ∧ n ≤ 158310720 ∧ s = strOfNums (stampText n) := by
  unfold rsF at h
  split at h
  · rename_i hc
    obtain ⟨h16, h4, h7, h10, o1, o2, o3, o4, hv, hlast⟩ := hc
    have e4 : rmF (s.extract 11 16) = ((rmF (s.extract 11 16)).1, true) := by rw [← o4]
    have ht := rmF_true _ _ e4
    have val : ∀ i j, (numV (s.extract i j)).2 = true → (s.extract i j).data.toList = u8s (digs (numV (s.extract i j)).1 (s.extract i j).data.toList.length) := by
      intro i j ho
      unfold numV at *
      cases hb : numB (s.extract i j).data.toList 0 with
      | none => rw [hb] at ho; simp at ho
      | some m => simp only []; exact (digs_of_numB _ m hb).1
    have v1 := val 0 4 o1
    have v2 := val 5 7 o2
    have v3 := val 8 10 o3
    generalize (numV (s.extract 0 4)).1 = y at *
    generalize (numV (s.extract 5 7)).1 = m at *
    generalize (numV (s.extract 8 10)).1 = d at *
    generalize (rmF (s.extract 11 16)).1 = t at *
    have hm := valid_month y m d hv
    have hb := numD_bd y m d hv hm
    have hd := date_of_num y m d hv hm
    simp only [Prod.mk.injEq, and_true] at h
    have hday : sDay n = numD y m d ∧ sMin n = t := by
      unfold sDay sMin
      by_cases h1440 : t = 1440
      · have : numD y m d = 109937 := by
          have : ¬ numD y m d < 109937 := fun hh => hlast ⟨h1440, hh⟩
          omega
        rw [if_pos (by omega), if_pos (by omega)]; omega
      · rw [if_neg (by omega), if_neg (by omega)]; omega
    refine ⟨by omega, by omega, ?_⟩
    apply bytes_of
    unfold stampText
    rw [hday.1, hday.2, hd.1, hd.2.1, hd.2.2]
    have hl : s.data.toList.length = 16 := by simpa using h16
    rw [extr] at v1 v2 v3
    have hx : (s.extract 11 16).data.toList = (strOfNums (minText t)).data.toList := congrArg (fun b : ByteArray => b.data.toList) ht.2.2
    rw [extr, strOfNums_data] at hx
    generalize s.data.toList = l at *
    match l, hl with
    | [x0, x1, x2, x3, x4, x5, x6, x7, x8, x9, xa, xb, xc, xd, xe, xf], _ =>
      simp only [List.drop_zero, List.take_succ_cons, List.take_zero, List.drop_succ_cons, List.length_cons, List.length_nil, Nat.sub_zero, Nat.reduceSub, Nat.reduceAdd] at v1 v2 v3 hx
      simp only [List.getD_cons_succ, List.getD_cons_zero] at h4 h7 h10
      simp only [List.map_append, List.map_cons]
      unfold u8s at v1 v2 v3
      rw [← v1, ← v2, ← v3, ← hx, u8_int x4 45 (by omega), u8_int x7 45 (by omega), u8_int xa 84 (by omega)]
      rfl
  · simp at h

theorem stamp_bd (n : Int) (h0 : 0 ≤ n) (h1 : n ≤ 158310720) : 0 ≤ sDay n ∧ sDay n < 109938 ∧ 0 ≤ sMin n ∧ sMin n ≤ 1440 ∧ n = 1440 * sDay n + sMin n ∧ (sMin n = 1440 → sDay n = 109937) := by
  unfold sDay sMin; split <;> omega

theorem rsF_text (n : Int) (h0 : 0 ≤ n) (h1 : n ≤ 158310720) : rsF (strOfNums (stampText n)) = (n, true) := by
  have sb := stamp_bd n h0 h1
  have db := date_bd _ sb.1 sb.2.1
  have dv := date_valid _ sb.1 sb.2.1
  obtain ⟨p1, p2, p3, p4, p5, p6, p7, p8⟩ := stamp_parts (dateY (sDay n)) (dateM (sDay n)) (dD (sDay n)) (sMin n) _ (by omega) (by omega) (by omega) rfl
  have hm := rmF_text (sMin n) sb.2.2.1 sb.2.2.2.1
  unfold rsF
  unfold stampText
  rw [p5, p6, p7, p8, hm, if_pos ⟨p1, p2, p3, p4, rfl, rfl, rfl, rfl, dv.1, by rw [dv.2.1]; omega⟩, dv.2.1]
  simp only [Prod.mk.injEq, and_true]
  omega

/-- What the document's ReadStamp answers. -/
def RefStamp (s : ByteArray) (r : Int) : Prop := (0 ≤ r ∧ r ≤ 158310720 ∧ s = strOfNums (stampText r)) ∨ (r = -1 ∧ ∀ n, 0 ≤ n → n ≤ 158310720 → s ≠ strOfNums (stampText n))

theorem rsF_ref (s : ByteArray) (r : Int) (h : RefStamp s r) : rsF s = if 0 ≤ r then (r, true) else (0, false) := by
  rcases h with ⟨h0, h1, rfl⟩ | ⟨rfl, h⟩
  · rw [if_pos h0]; exact rsF_text r h0 h1
  · rw [if_neg (by omega)]
    cases hr : rsF s with
    | mk n b =>
      cases b with
      | true => have := rsF_true s n hr; exact absurd this.2.2 (h n this.1 this.2.1)
      | false =>
        unfold rsF at hr
        split at hr
        · simp at hr
        · exact hr.symm

theorem refStamp_ex (s : ByteArray) : ∃ r, RefStamp s r := by
  by_cases h : ∃ n, 0 ≤ n ∧ n ≤ 158310720 ∧ s = strOfNums (stampText n)
  · obtain ⟨n, hn⟩ := h; exact ⟨n, .inl hn⟩
  · exact ⟨-1, .inr ⟨rfl, fun n h0 h1 e => h ⟨n, h0, h1, e⟩⟩⟩

theorem stampText_inj (a b : Int) (ha : 0 ≤ a ∧ a ≤ 158310720) (hb : 0 ≤ b ∧ b ≤ 158310720) (h : strOfNums (stampText a) = strOfNums (stampText b)) : a = b := by
  have h1 := rsF_text a ha.1 ha.2
  have h2 := rsF_text b hb.1 hb.2
  rw [h, h2] at h1
  simpa using h1.symm
end Go.Proofs.YtcleicjgeflbnaaGreatDoor
