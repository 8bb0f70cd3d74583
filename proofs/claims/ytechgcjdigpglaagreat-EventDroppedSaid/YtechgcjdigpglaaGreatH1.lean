/- Dates and their numbers: the plain law. Conditions: each theorem's own. -/
import Derived.Test.YtechgcjdigpglaaGreatG2
namespace Go.Proofs.YtechgcjdigpglaaGreat
open Go.RowKit
set_option linter.all false

def era (y : Int) : Int := 365 * y + y / 4 - y / 100 + y / 400
def march (m : Int) : Int := (153 * m + 2) / 5
def dFirst : Int := 693901
theorem year_parts (y : Int) : ∃ a b c d : Int, y = 400 * a + 100 * b + 4 * c + d ∧ 0 ≤ b ∧ b ≤ 3 ∧ 0 ≤ c ∧ c ≤ 24 ∧ 0 ≤ d ∧ d ≤ 3 :=
  ⟨y / 400, y % 400 / 100, y % 400 % 100 / 4, y % 400 % 100 % 4, by omega, by omega, by omega, by omega, by omega, by omega, by omega⟩
theorem era_step (y : Int) : era y + 365 ≤ era (y + 1) ∧ era (y + 1) ≤ era y + 366 := by
  obtain ⟨a, b, c, d, rfl, b0, b1, c0, c1, d0, d1⟩ := year_parts y
  unfold era
  have e1 : (400 * a + 100 * b + 4 * c + d) / 4 = 100 * a + 25 * b + c := by omega
  have e2 : (400 * a + 100 * b + 4 * c + d) / 100 = 4 * a + b := by omega
  have e3 : (400 * a + 100 * b + 4 * c + d) / 400 = a := by omega
  rw [e1, e2, e3]
  by_cases hd : d < 3
  · have f1 : (400 * a + 100 * b + 4 * c + d + 1) / 4 = 100 * a + 25 * b + c := by omega
    have f2 : (400 * a + 100 * b + 4 * c + d + 1) / 100 = 4 * a + b := by omega
    have f3 : (400 * a + 100 * b + 4 * c + d + 1) / 400 = a := by omega
    rw [f1, f2, f3]; omega
  · have f1 : (400 * a + 100 * b + 4 * c + d + 1) / 4 = 100 * a + 25 * b + c + 1 := by omega
    by_cases hc : c < 24
    · have f2 : (400 * a + 100 * b + 4 * c + d + 1) / 100 = 4 * a + b := by omega
      have f3 : (400 * a + 100 * b + 4 * c + d + 1) / 400 = a := by omega
      rw [f1, f2, f3]; omega
    · have f2 : (400 * a + 100 * b + 4 * c + d + 1) / 100 = 4 * a + b + 1 := by omega
      rw [f1, f2]; omega
def yOf (n : Int) : Int := if era (n / 365) ≤ n then n / 365 else if era (n / 365 - 1) ≤ n then n / 365 - 1 else n / 365 - 2
def dRest (n : Int) : Int := n + 693901 - era (yOf (n + 693901))
def dM (n : Int) : Int := (5 * dRest n + 2) / 153
def dD (n : Int) : Int := dRest n - march (dM n) + 1
def dateY (n : Int) : Int := if 10 ≤ dM n then yOf (n + 693901) + 1 else yOf (n + 693901)
def dateM (n : Int) : Int := if 10 ≤ dM n then dM n - 9 else dM n + 3
theorem yOf_spec (n : Int) (h0 : 693901 ≤ n) (h1 : n < 803839) : era (yOf n) ≤ n ∧ n < era (yOf n + 1) ∧ yOf n ≤ n / 365 ∧ n / 365 ≤ yOf n + 2 ∧ 1899 ≤ yOf n ∧ yOf n ≤ 2200 := by
  unfold yOf
  split
  · unfold era at *; refine ⟨?_, ?_, ?_, ?_, ?_, ?_⟩ <;> omega
  · split
    · rw [show n / 365 - 1 + 1 = n / 365 from by omega]; unfold era at *; refine ⟨?_, ?_, ?_, ?_, ?_, ?_⟩ <;> omega
    · rw [show n / 365 - 2 + 1 = n / 365 - 1 from by omega]; unfold era at *; refine ⟨?_, ?_, ?_, ?_, ?_, ?_⟩ <;> omega
theorem era_mono (a b : Int) (h : a ≤ b) : era a ≤ era b := by unfold era; omega
theorem dRest_bd (n : Int) (h0 : 0 ≤ n) (h1 : n < 109938) : 0 ≤ dRest n ∧ dRest n ≤ 365 := by
  obtain ⟨a, b, c, d, e, f⟩ := yOf_spec (n + 693901) (by omega) (by omega)
  unfold dRest
  have := era_step (yOf (n + 693901))
  omega
theorem dM_bd (n : Int) (h0 : 0 ≤ n) (h1 : n < 109938) : 0 ≤ dM n ∧ dM n ≤ 11 ∧ 1 ≤ dD n ∧ dD n ≤ 31 ∧ (dM n < 11 → dD n ≤ march (dM n + 1) - march (dM n)) := by
  have := dRest_bd n h0 h1
  unfold dD dM march
  generalize dRest n = r at *
  omega
/-- The number of the day on which a month begins, months counted from March of the year 0 on. -/
def mBegin (y m : Int) : Int := era y + march m
theorem mBegin_lt (y1 m1 y2 m2 : Int) (h1 : 0 ≤ m1 ∧ m1 ≤ 11) (h2 : 0 ≤ m2 ∧ m2 ≤ 11) (h : 12 * y1 + m1 < 12 * y2 + m2) (d : Int)
    (hd : (m1 < 11 → d ≤ march (m1 + 1) - march m1) ∧ (m1 = 11 → d ≤ era (y1 + 1) - mBegin y1 11)) : mBegin y1 m1 + d ≤ mBegin y2 m2 := by
  unfold mBegin at *
  by_cases e : y1 = y2
  · subst e
    have := hd.1 (by omega)
    unfold march at *; omega
  · have := era_mono (y1 + 1) y2 (by omega)
    by_cases hm : m1 < 11
    · have := hd.1 hm
      have := era_step y1
      unfold march at *; omega
    · have e11 : m1 = 11 := by omega
      subst e11
      have := hd.2 rfl
      unfold march at *; omega
theorem date_lt (a b : Int) (ha : 0 ≤ a ∧ a < 109938) (hb : 0 ≤ b ∧ b < 109938) (h : a < b) :
    dateY a < dateY b ∨ dateY a = dateY b ∧ (dateM a < dateM b ∨ dateM a = dateM b ∧ dD a < dD b) := by
  have ya := yOf_spec (a + 693901) (by omega) (by omega)
  have yb := yOf_spec (b + 693901) (by omega) (by omega)
  have da := dM_bd a ha.1 ha.2
  have db := dM_bd b hb.1 hb.2
  have ea : mBegin (yOf (a + 693901)) (dM a) + dD a = a + 693902 := by unfold mBegin dD dRest; omega
  have eb : mBegin (yOf (b + 693901)) (dM b) + dD b = b + 693902 := by unfold mBegin dD dRest; omega
  have hlast : dM b = 11 → dD b ≤ era (yOf (b + 693901) + 1) - mBegin (yOf (b + 693901)) 11 := by
    intro e
    rw [e] at eb
    omega
  have key : ¬ (12 * yOf (b + 693901) + dM b < 12 * yOf (a + 693901) + dM a) := by
    intro hlt
    have := mBegin_lt _ _ _ _ ⟨db.1, db.2.1⟩ ⟨da.1, da.2.1⟩ hlt (dD b) ⟨db.2.2.2.2, hlast⟩
    omega
  have same : yOf (a + 693901) = yOf (b + 693901) → dM a = dM b → dD a < dD b := by
    intro e1 e2
    rw [e1, e2] at ea
    omega
  unfold dateY dateM
  clear ea eb hlast
  generalize yOf (a + 693901) = y1 at *
  generalize yOf (b + 693901) = y2 at *
  split <;> split <;> omega
def leapN (y : Int) : Int := if y % 4 = 0 ∧ y % 100 ≠ 0 ∨ y % 400 = 0 then 1 else 0
def lenM (y m : Int) : Int := if m = 2 then 28 + leapN y else if m = 4 ∨ m = 6 ∨ m = 9 ∨ m = 11 then 30 else if 1 ≤ m ∧ m ≤ 12 then 31 else 0
def validD (y m d : Int) : Prop := 1900 ≤ y ∧ y ≤ 2200 ∧ 1 ≤ d ∧ d ≤ lenM y m
def shY (y m : Int) : Int := if m < 3 then y - 1 else y
def shM (m : Int) : Int := if m < 3 then m + 9 else m - 3
def numD (y m d : Int) : Int := era (shY y m) + march (shM m) + d - 1 - 693901
theorem leapN_bd (y : Int) : 0 ≤ leapN y ∧ leapN y ≤ 1 := by unfold leapN; split <;> omega
theorem era_leap (y : Int) : era (y + 1) = era y + 365 + leapN (y + 1) := by
  obtain ⟨a, b, c, d, rfl, b0, b1, c0, c1, d0, d1⟩ := year_parts y
  unfold leapN era
  have e1 : (400 * a + 100 * b + 4 * c + d) / 4 = 100 * a + 25 * b + c := by omega
  have e2 : (400 * a + 100 * b + 4 * c + d) / 100 = 4 * a + b := by omega
  have e3 : (400 * a + 100 * b + 4 * c + d) / 400 = a := by omega
  rw [e1, e2, e3]
  by_cases hd : d < 3
  · have f1 : (400 * a + 100 * b + 4 * c + d + 1) / 4 = 100 * a + 25 * b + c := by omega
    have f2 : (400 * a + 100 * b + 4 * c + d + 1) / 100 = 4 * a + b := by omega
    have f3 : (400 * a + 100 * b + 4 * c + d + 1) / 400 = a := by omega
    have g1 : (400 * a + 100 * b + 4 * c + d + 1) % 4 = d + 1 := by omega
    have g3 : (400 * a + 100 * b + 4 * c + d + 1) % 400 = 100 * b + 4 * c + d + 1 := by omega
    rw [f1, f2, f3, g1, g3, if_neg (by omega)]; omega
  · have f1 : (400 * a + 100 * b + 4 * c + d + 1) / 4 = 100 * a + 25 * b + c + 1 := by omega
    by_cases hc : c < 24
    · have f2 : (400 * a + 100 * b + 4 * c + d + 1) / 100 = 4 * a + b := by omega
      have f3 : (400 * a + 100 * b + 4 * c + d + 1) / 400 = a := by omega
      have g1 : (400 * a + 100 * b + 4 * c + d + 1) % 4 = 0 := by omega
      have g2 : (400 * a + 100 * b + 4 * c + d + 1) % 100 = 4 * c + 4 := by omega
      rw [f1, f2, f3, g1, g2, if_pos (by omega)]; omega
    · have f2 : (400 * a + 100 * b + 4 * c + d + 1) / 100 = 4 * a + b + 1 := by omega
      by_cases hb : b < 3
      · have f3 : (400 * a + 100 * b + 4 * c + d + 1) / 400 = a := by omega
        have g2 : (400 * a + 100 * b + 4 * c + d + 1) % 100 = 0 := by omega
        have g3 : (400 * a + 100 * b + 4 * c + d + 1) % 400 = 100 * b + 100 := by omega
        rw [f1, f2, f3, g2, g3, if_neg (by omega)]; omega
      · have f3 : (400 * a + 100 * b + 4 * c + d + 1) / 400 = a + 1 := by omega
        have g3 : (400 * a + 100 * b + 4 * c + d + 1) % 400 = 0 := by omega
        rw [f1, f2, f3, g3, if_pos (by omega)]; omega
theorem lenM_bd (y m : Int) : 0 ≤ lenM y m ∧ lenM y m ≤ 31 := by
  have := leapN_bd y
  unfold lenM; split <;> (try split) <;> (try split) <;> omega
theorem lenM_out (y m : Int) (h : m < 1 ∨ 12 < m) : lenM y m = 0 := by
  unfold lenM; rw [if_neg (by omega), if_neg (by omega), if_neg (by omega)]
/-- The next month begins just behind the month's last day. -/
theorem month_step (y m : Int) (h1 : 1 ≤ m) (h2 : m ≤ 12) : (shM m < 11 → lenM y m = march (shM m + 1) - march (shM m)) ∧ (shM m = 11 → lenM y m = era (shY y m + 1) - mBegin (shY y m) 11) := by
  have hl := era_leap (y - 1)
  rw [show y - 1 + 1 = y from by omega] at hl
  have hm : m = 1 ∨ m = 2 ∨ m = 3 ∨ m = 4 ∨ m = 5 ∨ m = 6 ∨ m = 7 ∨ m = 8 ∨ m = 9 ∨ m = 10 ∨ m = 11 ∨ m = 12 := by omega
  rcases hm with rfl | rfl | rfl | rfl | rfl | rfl | rfl | rfl | rfl | rfl | rfl | rfl <;>
    simp [shM, shY, lenM, march, mBegin] <;> omega
theorem date_valid (n : Int) (h0 : 0 ≤ n) (h1 : n < 109938) : validD (dateY n) (dateM n) (dD n) ∧ numD (dateY n) (dateM n) (dD n) = n ∧ 1 ≤ dateM n ∧ dateM n ≤ 12 := by
  have ys := yOf_spec (n + 693901) (by omega) (by omega)
  have ms := dM_bd n h0 h1
  have e : mBegin (yOf (n + 693901)) (dM n) + dD n = n + 693902 := by unfold mBegin dD dRest; omega
  have esh : shY (dateY n) (dateM n) = yOf (n + 693901) ∧ shM (dateM n) = dM n ∧ 1 ≤ dateM n ∧ dateM n ≤ 12 := by
    unfold shY shM dateY dateM
    split <;> (split <;> omega)
  have st := month_step (dateY n) (dateM n) esh.2.2.1 esh.2.2.2
  rw [esh.1, esh.2.1] at st
  have hlen : dD n ≤ lenM (dateY n) (dateM n) := by
    by_cases h : dM n < 11
    · rw [st.1 h]; exact ms.2.2.2.2 h
    · have h11 : dM n = 11 := by omega
      rw [st.2 h11]
      rw [h11] at e
      omega
  refine ⟨⟨?_, ?_, ms.2.2.1, hlen⟩, ?_, esh.2.2⟩
  · unfold dateY
    split
    · omega
    · have hb : march (dM n) ≤ 275 := by unfold march; omega
      by_cases hy : yOf (n + 693901) = 1899
      · have : era 1899 = 693595 := by decide
        have hd : dD n ≤ 31 := ms.2.2.2.1
        unfold mBegin at e
        rw [hy] at e
        omega
      · omega
  · unfold dateY
    split
    · by_cases hy : yOf (n + 693901) = 2200
      · have e2 : era 2200 = 803533 := by decide
        have hm : 306 ≤ march (dM n) := by unfold march; omega
        unfold mBegin at e
        rw [hy] at e
        omega
      · omega
    · omega
  · unfold numD; rw [esh.1, esh.2.1]; unfold mBegin at e; omega
theorem numD_inj (y1 m1 d1 y2 m2 d2 : Int) (h1 : validD y1 m1 d1) (h2 : validD y2 m2 d2) (b1 : 1 ≤ m1 ∧ m1 ≤ 12) (b2 : 1 ≤ m2 ∧ m2 ≤ 12) (e : numD y1 m1 d1 = numD y2 m2 d2) : y1 = y2 ∧ m1 = m2 ∧ d1 = d2 := by
  obtain ⟨p1, p2, p3, p4⟩ := h1
  obtain ⟨q1, q2, q3, q4⟩ := h2
  have s1 := month_step y1 m1 b1.1 b1.2
  have s2 := month_step y2 m2 b2.1 b2.2
  have r1 : 0 ≤ shM m1 ∧ shM m1 ≤ 11 ∧ 12 * shY y1 m1 + shM m1 = 12 * y1 + m1 - 3 := by unfold shM shY; split <;> omega
  have r2 : 0 ≤ shM m2 ∧ shM m2 ≤ 11 ∧ 12 * shY y2 m2 + shM m2 = 12 * y2 + m2 - 3 := by unfold shM shY; split <;> omega
  have k1 : ¬ (12 * shY y1 m1 + shM m1 < 12 * shY y2 m2 + shM m2) := by
    intro h
    have := mBegin_lt _ _ _ _ ⟨r1.1, r1.2.1⟩ ⟨r2.1, r2.2.1⟩ h d1 ⟨fun h => by have := s1.1 h; omega, fun h => by have := s1.2 h; omega⟩
    unfold mBegin numD at *
    omega
  have k2 : ¬ (12 * shY y2 m2 + shM m2 < 12 * shY y1 m1 + shM m1) := by
    intro h
    have := mBegin_lt _ _ _ _ ⟨r2.1, r2.2.1⟩ ⟨r1.1, r1.2.1⟩ h d2 ⟨fun h => by have := s2.1 h; omega, fun h => by have := s2.2 h; omega⟩
    unfold mBegin numD at *
    omega
  have ey : y1 = y2 := by omega
  have em : m1 = m2 := by omega
  subst ey em
  refine ⟨rfl, rfl, ?_⟩
  unfold numD at e
  omega
theorem numD_bd (y m d : Int) (h : validD y m d) (b : 1 ≤ m ∧ m ≤ 12) : 0 ≤ numD y m d ∧ numD y m d < 109938 := by
  obtain ⟨p1, p2, p3, p4⟩ := h
  have s := month_step y m b.1 b.2
  have hl := lenM_bd y m
  have r : 0 ≤ shM m ∧ shM m ≤ 11 ∧ 12 * shY y m + shM m = 12 * y + m - 3 := by unfold shM shY; split <;> omega
  have e1 : mBegin 1899 10 = 693901 := by decide
  have e2 : mBegin 2200 9 = 803808 := by decide
  have e3 : march 10 - march 9 = 31 := by decide
  constructor
  · by_cases h : 12 * 1899 + 10 < 12 * shY y m + shM m
    · have := mBegin_lt 1899 10 _ _ (by omega) ⟨r.1, r.2.1⟩ h 0 ⟨fun _ => by decide, fun _ => by omega⟩
      unfold mBegin numD at *; omega
    · have a1 : shY y m = 1899 := by omega
      have a2 : shM m = 10 := by omega
      unfold mBegin at e1
      unfold numD; rw [a1, a2]; omega
  · by_cases h : 12 * shY y m + shM m < 12 * 2200 + 9
    · have := mBegin_lt _ _ 2200 9 ⟨r.1, r.2.1⟩ (by omega) h d ⟨fun h => by have := s.1 h; omega, fun h => by have := s.2 h; omega⟩
      unfold mBegin numD at *; omega
    · have a1 : shY y m = 2200 := by omega
      have a2 : shM m = 9 := by omega
      unfold mBegin at e2
      unfold numD; rw [a1, a2]; omega
theorem date_of_num (y m d : Int) (h : validD y m d) (b : 1 ≤ m ∧ m ≤ 12) : dateY (numD y m d) = y ∧ dateM (numD y m d) = m ∧ dD (numD y m d) = d := by
  have nb := numD_bd y m d h b
  have dv := date_valid _ nb.1 nb.2
  exact numD_inj _ _ _ _ _ _ dv.1 h dv.2.2 b dv.2.1
theorem valid_month (y m d : Int) (h : validD y m d) : 1 ≤ m ∧ m ≤ 12 := by
  obtain ⟨p1, p2, p3, p4⟩ := h
  by_cases hm : m < 1 ∨ 12 < m
  · rw [lenM_out y m hm] at p4; omega
  · omega
/-- Days ahead of a year's first day, from 1900 on; days of a year ahead of a month's first day. -/
def dby (y : Int) : Int := numD y 1 1
def cumM (y m : Int) : Int := numD y m 1 - numD y 1 1
theorem dby_step (y : Int) : dby (y + 1) = dby y + 365 + leapN y := by
  have := era_leap (y - 1)
  rw [show y - 1 + 1 = y from by omega] at this
  have e1 : ∀ z, shY z 1 = z - 1 := by intro z; unfold shY; rw [if_pos (by omega)]
  simp only [dby, numD, e1]
  rw [show y + 1 - 1 = y from by omega]
  omega
theorem dby_0 : dby 1900 = 0 := by decide
theorem cumM_0 (y : Int) : cumM y 1 = 0 := by unfold cumM; omega
theorem cumM_step (y m : Int) (h1 : 1 ≤ m) (h2 : m < 12) : cumM y (m + 1) = cumM y m + lenM y m := by
  have hl := era_leap (y - 1)
  rw [show y - 1 + 1 = y from by omega] at hl
  have hm : m = 1 ∨ m = 2 ∨ m = 3 ∨ m = 4 ∨ m = 5 ∨ m = 6 ∨ m = 7 ∨ m = 8 ∨ m = 9 ∨ m = 10 ∨ m = 11 := by omega
  rcases hm with rfl | rfl | rfl | rfl | rfl | rfl | rfl | rfl | rfl | rfl | rfl <;>
    simp [cumM, numD, shM, shY, lenM, march] <;> omega
theorem numD_cum (y m d : Int) : numD y m d = dby y + cumM y m + d - 1 := by unfold dby cumM numD; omega
theorem cum_year (y : Int) : cumM y 12 + lenM y 12 = 365 + leapN y := by
  have hl := era_leap (y - 1)
  rw [show y - 1 + 1 = y from by omega] at hl
  have e1 : shY y 1 = y - 1 := by unfold shY; rw [if_pos (by omega)]
  have e2 : shM 1 = 10 := by unfold shM; rw [if_pos (by omega)]; rfl
  have e3 : shY y 12 = y := by unfold shY; rw [if_neg (by omega)]
  have e4 : shM 12 = 9 := by unfold shM; rw [if_neg (by omega)]; rfl
  have e5 : lenM y 12 = 31 := by unfold lenM; rw [if_neg (by omega), if_neg (by omega), if_pos (by omega)]
  have e6 : march 10 - march 9 = 31 := by decide
  simp only [cumM, numD, e1, e2, e3, e4, e5]
  omega
theorem date_bd (n : Int) (h0 : 0 ≤ n) (h1 : n < 109938) : 1899 ≤ dateY n ∧ dateY n ≤ 2201 ∧ 1 ≤ dateM n ∧ dateM n ≤ 12 ∧ 1 ≤ dD n ∧ dD n ≤ 31 := by
  have a := yOf_spec (n + 693901) (by omega) (by omega)
  have b := dM_bd n h0 h1
  unfold dateY dateM
  split <;> omega
theorem dby_bd (y : Int) (h0 : 1900 ≤ y) (h1 : y ≤ 2300) : 0 ≤ dby y ∧ dby y ≤ 200000 := by
  unfold dby numD shY shM era march
  simp
  omega
theorem cumM_bd (y m : Int) (h0 : 1 ≤ m) (h1 : m ≤ 12) : 0 ≤ cumM y m ∧ cumM y m ≤ 366 := by
  have hl := era_leap (y - 1)
  have hb := leapN_bd y
  rw [show y - 1 + 1 = y from by omega] at hl
  have hm : m = 1 ∨ m = 2 ∨ m = 3 ∨ m = 4 ∨ m = 5 ∨ m = 6 ∨ m = 7 ∨ m = 8 ∨ m = 9 ∨ m = 10 ∨ m = 11 ∨ m = 12 := by omega
  rcases hm with rfl | rfl | rfl | rfl | rfl | rfl | rfl | rfl | rfl | rfl | rfl | rfl <;>
    simp [cumM, numD, shM, shY, march] <;> omega
end Go.Proofs.YtechgcjdigpglaaGreat
