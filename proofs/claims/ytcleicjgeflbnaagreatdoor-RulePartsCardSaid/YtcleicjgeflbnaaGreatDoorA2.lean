/- Walks of the clock's functions and what they compute; part A2 of the proof of the laws of layer 3. Conditions: each theorem's own. -/
import Derived.Test.YtcleicjgeflbnaaGreatDoorA1
import Derived.Deep.QuietTactic
import Derived.BigQuiet
import Derived.Lib.Hide
namespace Go.Proofs.YtcleicjgeflbnaaGreatDoor
open Go.RowKit

def minText (n : Int) : List Int := digs (n / 60) 2 ++ (58 :: digs (n % 60) 2)

theorem strOfNums_append (a b : List Int) : strOfNums a ++ strOfNums b = strOfNums (a ++ b) := by
  unfold strOfNums
  apply ByteArray.ext
  simp

theorem digits2 (n : Int) (h0 : 0 ≤ n) (hn : n < 1000000000) (w : World) :
    Calls Tryz.prog 81 #[.int .i64 n, .int .i64 2] w fun e w' => e = .returned (.string (strOfNums (digs n 2))) ∧ Below w.heap.size w w' :=
  digits_any n 2 h0 hn (by omega) w

theorem digits4 (n : Int) (h0 : 0 ≤ n) (hn : n < 1000000000) (w : World) :
    Calls Tryz.prog 81 #[.int .i64 n, .int .i64 4] w fun e w' => e = .returned (.string (strOfNums (digs n 4))) ∧ Below w.heap.size w w' :=
  digits_any n 4 h0 hn (by omega) w

theorem minute_no (n : Int) (h : n < 0 ∨ 1440 < n) (w : World) :
    Calls Tryz.prog 80 #[.int .i64 n] w fun e w' => e = .returned (.tuple #[.string ⟨#[]⟩, .bool false]) ∧ Below w.heap.size w w' := by
  rcases h with h | h
  · go_enter Tryz.func80, Tryz.ntmps80
    go_wp2
    go_ret2
    exact ⟨rfl, Below.refl _ _⟩
  · have h' : ¬ n < 0 := by omega
    go_enter Tryz.func80, Tryz.ntmps80
    go_wp2
    go_ret2
    exact ⟨rfl, Below.refl _ _⟩

theorem below_callA {w0 w w1 w2 : World} (h1 : Below w0.heap.size w w1) (h2 : Below w1.heap.size w1 w2) (hB : w0.heap.size ≤ w.heap.size := by omega) : Below w0.heap.size w w2 := by
  have := h1.size
  exact h1.trans (h2.mono (by omega))

set_option maxRecDepth 100000 in
set_option maxHeartbeats 1000000 in
theorem minute_yes (n : Int) (h0 : 0 ≤ n) (h1 : n ≤ 1440) (w : World) :
    Calls Tryz.prog 80 #[.int .i64 n] w fun e w' => e = .returned (.tuple #[.string (strOfNums (minText n)), .bool true]) ∧ Below w.heap.size w w' := by
  have h2 : ¬ n < 0 := by omega
  have h3 : ¬ 1440 < n := by omega
  have s1 := strOfNums_size (digs (n / 60) 2)
  have s2 := strOfNums_size (digs (n % 60) 2)
  rw [digs_length] at s1 s2
  go_enter Tryz.func80, Tryz.ntmps80
  go_wp2_with fail
  refine (digits2 _ (by omega) (by omega) _).mono ?_
  rintro e w1 ⟨rfl, hb1⟩
  go_wp2_with fail
  refine (digits2 _ (by omega) (by omega) _).mono ?_
  rintro e w2 ⟨rfl, hb2⟩
  go_wp2
  go_ret2
  refine ⟨?_, below_callA hb1 hb2⟩
  show Ending.returned (.tuple #[.string (strOfNums (digs (n / 60) 2) ++ ⟨#[58]⟩ ++ strOfNums (digs (n % 60) 2)), .bool true]) = _
  rw [show (⟨#[58]⟩ : ByteArray) = strOfNums [58] from rfl, strOfNums_append, strOfNums_append, List.append_assoc]
  rfl

def era (y : Int) : Int := 365 * y + y / 4 - y / 100 + y / 400
def march (m : Int) : Int := (153 * m + 2) / 5
def dFirst : Int := 693901

theorem era_any (y : Int) (h0 : 0 ≤ y) (h1 : y ≤ 100000) (w : World) :
    Calls Tryz.prog 103 #[.int .i64 y] w fun e w' => e = .returned (.int .i64 (era y)) ∧ w = w' := by
  go_enter Tryz.func103, Tryz.ntmps103
  go_wp2
  go_ret
  exact ⟨rfl, rfl⟩

theorem march_any (y : Int) (h0 : 0 ≤ y) (h1 : y ≤ 100000) (w : World) :
    Calls Tryz.prog 104 #[.int .i64 y] w fun e w' => e = .returned (.int .i64 (march y)) ∧ w = w' := by
  go_enter Tryz.func104, Tryz.ntmps104
  go_wp2
  go_ret
  exact ⟨rfl, rfl⟩

theorem first_any (w : World) : Calls Tryz.prog 102 #[] w fun e w' => e = .returned (.int .i64 693901) ∧ w = w' := by
  go_enter Tryz.func102, Tryz.ntmps102
  go_wp2_with (first | (go_at_call 103; refine (era_any _ (by omega) (by omega) _).mono ?_; rintro e w' ⟨rfl, rfl⟩) | (go_at_call 104; refine (march_any _ (by omega) (by omega) _).mono ?_; rintro e w' ⟨rfl, rfl⟩))
  go_ret
  exact ⟨by show Ending.returned (.int .i64 _) = _; congr 2; decide +kernel, rfl⟩

theorem year_parts (y : Int) : ∃ a b c d : Int, y = 400 * a + 100 * b + 4 * c + d ∧ 0 ≤ b ∧ b ≤ 3 ∧ 0 ≤ c ∧ c ≤ 24 ∧ 0 ≤ d ∧ d ≤ 3 :=
  ⟨y / 400, y % 400 / 100, y % 400 % 100 / 4, y % 400 % 100 % 4, by omega, by omega, by omega, by omega, by omega, by omega, by omega⟩

theorem era_step (y : Int) : era y + 365 ≤ era (y + 1) ∧ era (y + 1) ≤ era y + 366 := by
  obtain ⟨a, b, c, d, rfl, b0, b1, c0, c1, d0, d1⟩ := year_parts y
  unfold era
  have e1 : (400 * a + 100 * b + 4 * c + d) / 4 = 100 * a + 25 * b + c := by omega
  have e2 : (400 * a + 100 * b + 4 * c + d) / 100 = 4 * a + b := by omega
  have e3 : (400 * a + 100 * b + 4 * c + d) / 400 = a := by omega
  rw [e1, e2, e3]
  by_cases hd : d < 3
  · have f1 : (400 * a + 100 * b + 4 * c + d + 1) / 4 = 100 * a + 25 * b + c := by omega
    have f2 : (400 * a + 100 * b + 4 * c + d + 1) / 100 = 4 * a + b := by omega
    have f3 : (400 * a + 100 * b + 4 * c + d + 1) / 400 = a := by omega
    rw [f1, f2, f3]; omega
  · have f1 : (400 * a + 100 * b + 4 * c + d + 1) / 4 = 100 * a + 25 * b + c + 1 := by omega
    by_cases hc : c < 24
    · have f2 : (400 * a + 100 * b + 4 * c + d + 1) / 100 = 4 * a + b := by omega
      have f3 : (400 * a + 100 * b + 4 * c + d + 1) / 400 = a := by omega
      rw [f1, f2, f3]; omega
    · have f2 : (400 * a + 100 * b + 4 * c + d + 1) / 100 = 4 * a + b + 1 := by omega
      rw [f1, f2]; omega

def yOf (n : Int) : Int := if era (n / 365) ≤ n then n / 365 else if era (n / 365 - 1) ≤ n then n / 365 - 1 else n / 365 - 2
def dRest (n : Int) : Int := n + 693901 - era (yOf (n + 693901))
def dM (n : Int) : Int := (5 * dRest n + 2) / 153
def dD (n : Int) : Int := dRest n - march (dM n) + 1
def dateY (n : Int) : Int := if 10 ≤ dM n then yOf (n + 693901) + 1 else yOf (n + 693901)
def dateM (n : Int) : Int := if 10 ≤ dM n then dM n - 9 else dM n + 3

theorem yOf_spec (n : Int) (h0 : 693901 ≤ n) (h1 : n < 803839) : era (yOf n) ≤ n ∧ n < era (yOf n + 1) ∧ yOf n ≤ n / 365 ∧ n / 365 ≤ yOf n + 2 ∧ 1899 ≤ yOf n ∧ yOf n ≤ 2200 := by
  unfold yOf
  split
  · unfold era at *; refine ⟨?_, ?_, ?_, ?_, ?_, ?_⟩ <;> omega
  · split
    · rw [show n / 365 - 1 + 1 = n / 365 from by omega]; unfold era at *; refine ⟨?_, ?_, ?_, ?_, ?_, ?_⟩ <;> omega
    · rw [show n / 365 - 2 + 1 = n / 365 - 1 from by omega]; unfold era at *; refine ⟨?_, ?_, ?_, ?_, ?_, ?_⟩ <;> omega

theorem era_mono (a b : Int) (h : a ≤ b) : era a ≤ era b := by unfold era; omega

theorem dRest_bd (n : Int) (h0 : 0 ≤ n) (h1 : n < 109938) : 0 ≤ dRest n ∧ dRest n ≤ 365 := by
  obtain ⟨a, b, c, d, e, f⟩ := yOf_spec (n + 693901) (by omega) (by omega)
  unfold dRest
  have := era_step (yOf (n + 693901))
  omega

theorem dM_bd (n : Int) (h0 : 0 ≤ n) (h1 : n < 109938) : 0 ≤ dM n ∧ dM n ≤ 11 ∧ 1 ≤ dD n ∧ dD n ≤ 31 ∧ (dM n < 11 → dD n ≤ march (dM n + 1) - march (dM n)) := by
  have := dRest_bd n h0 h1
  unfold dD dM march
  generalize dRest n = r at *
  omega

def zdate : Value := .agg #[.int .i64 0, .int .i64 0, .int .i64 0]

theorem date_no (n : Int) (h : n < 0 ∨ 109938 ≤ n) (w : World) :
    Calls Tryz.prog 79 #[.int .i64 n] w fun e w' => e = .returned (.tuple #[.agg #[.int .i64 0, .int .i64 0, .int .i64 0], .bool false]) ∧ Below w.heap.size w w' := by
  rcases h with h | h
  · go_enter Tryz.func79, Tryz.ntmps79
    go_wp2
    exact bodyPost_ret (v := .tuple #[.agg #[.int .i64 0, .int .i64 0, .int .i64 0], .bool false]) (by simp [results, Tryz.results79, go_sem]) rfl ⟨rfl, by repeat (first | exact Below.refl _ _ | refine Below.setCell ?_ (by simp) _ | refine Below.alloc ?_ (by simp) _)⟩
  · have h' : ¬ n < 0 := by omega
    go_enter Tryz.func79, Tryz.ntmps79
    go_wp2
    exact bodyPost_ret (v := .tuple #[.agg #[.int .i64 0, .int .i64 0, .int .i64 0], .bool false]) (by simp [results, Tryz.results79, go_sem]) rfl ⟨rfl, by repeat (first | exact Below.refl _ _ | refine Below.setCell ?_ (by simp) _ | refine Below.alloc ?_ (by simp) _)⟩

set_option maxRecDepth 100000 in
set_option maxHeartbeats 1000000 in
theorem date_yes (n : Int) (h0 : 0 ≤ n) (h1 : n < 109938) (w : World) :
    Calls Tryz.prog 79 #[.int .i64 n] w fun e w' => e = .returned (.tuple #[.agg #[.int .i64 (dateY n), .int .i64 (dateM n), .int .i64 (dD n)], .bool true]) ∧ Below w.heap.size w w' := by
  have h2 : ¬ n < 0 := by omega
  have h3 : ¬ 109938 ≤ n := by omega
  have hys := yOf_spec (n + 693901) (by omega) (by omega)
  have hrb := dRest_bd n h0 h1
  have hmb := dM_bd n h0 h1
  go_enter Tryz.func79, Tryz.ntmps79
  go_wp2_with (go_at_call 102; refine (first_any _).mono ?_; rintro e w' ⟨rfl, rfl⟩)
  go_loop [4] (fun a => ∃ y : Int, yOf (n + 693901) ≤ y ∧ y ≤ (n + 693901) / 365 ∧ a = .int .i64 y) (fun a => (intOf a).toNat)
  case atStart => exact ⟨(n + 693901) / 365, hys.2.2.1, by omega, rfl⟩
  case round =>
    obtain ⟨y, hy0, hy1, rfl⟩ := hrel
    by_cases hc : y = yOf (n + 693901)
    · have hr : n + 693901 - era y = dRest n := by rw [hc]; rfl
      have he : ¬ n + 693901 < era y := by omega
      have hy2 : 0 ≤ y := by omega
      have hy3 : y ≤ 3000 := by omega
      have hM : (5 * (n + 693901 - era y) + 2) / 153 = dM n := by rw [hr]; rfl
      have hD : n + 693901 - era y - march ((5 * (n + 693901 - era y) + 2) / 153) + 1 = dD n := by rw [hM, hr]; rfl
      have hb1 : 0 ≤ n + 693901 - era y := by omega
      have hb2 : n + 693901 - era y ≤ 365 := by omega
      have hb3 : 0 ≤ march ((5 * (n + 693901 - era y) + 2) / 153) := by unfold march; omega
      have hb4 : march ((5 * (n + 693901 - era y) + 2) / 153) ≤ 365 := by unfold march; omega
      have Hc := Lib.hid hc; have HM := Lib.hid hM; have HD := Lib.hid hD
      by_cases hm : 10 ≤ (5 * (n + 693901 - era y) + 2) / 153
      all_goals
        have hm' := hm
        rw [hM] at hm'
        have HY := Lib.hid (show (if 10 ≤ dM n then dateY n = y + 1 ∧ dateM n = dM n - 9 else dateY n = y ∧ dateM n = dM n + 3) by unfold dateY dateM; rw [← hc]; split <;> exact ⟨rfl, rfl⟩)
        have Hm := Lib.hid hm'
        clear hc hM hD hm' hr hys hrb hmb hy0 hy1
        go_wp2_with fail
        refine (era_any _ (by omega) (by omega) _).mono ?_; rintro e w' ⟨rfl, rfl⟩
        go_wp2_with fail
        refine (era_any _ (by omega) (by omega) _).mono ?_; rintro e w' ⟨rfl, rfl⟩
        go_wp2_with fail
        refine (march_any _ (by omega) (by omega) _).mono ?_; rintro e w' ⟨rfl, rfl⟩
        go_wp2
      · have hy := HY.out
        rw [if_pos Hm.out, ← HM.out] at hy
        have hd := HD.out
        refine bodyPost_ret (v := .tuple #[.agg #[.int .i64 (y + 1), .int .i64 ((5 * (n + 693901 - era y) + 2) / 153 - 9), .int .i64 (n + 693901 - era y - march ((5 * (n + 693901 - era y) + 2) / 153) + 1)], .bool true]) (by simp [results, Tryz.results79, go_sem]) rfl ⟨by rw [hy.1, hy.2, hd], by repeat (first | exact Below.refl _ _ | refine Below.setCell ?_ (by simp) _ | refine Below.alloc ?_ (by simp) _)⟩
      · have hy := HY.out
        rw [if_neg (by have := Hm.out; omega), ← HM.out] at hy
        have hd := HD.out
        refine bodyPost_ret (v := .tuple #[.agg #[.int .i64 y, .int .i64 ((5 * (n + 693901 - era y) + 2) / 153 + 3), .int .i64 (n + 693901 - era y - march ((5 * (n + 693901 - era y) + 2) / 153) + 1)], .bool true]) (by simp [results, Tryz.results79, go_sem]) rfl ⟨by rw [hy.1, hy.2, hd], by repeat (first | exact Below.refl _ _ | refine Below.setCell ?_ (by simp) _ | refine Below.alloc ?_ (by simp) _)⟩
    · have he : n + 693901 < era y := by
        have := era_mono (yOf (n + 693901) + 1) y (by omega)
        omega
      go_wp2_with (first | (go_at_call 103; refine (era_any _ (by omega) (by omega) _).mono ?_; rintro e w' ⟨rfl, rfl⟩) | (go_at_call 104; refine (march_any _ (by omega) (by omega) _).mono ?_; rintro e w' ⟨rfl, rfl⟩))
      go_round
      case rel => exact ⟨y - 1, by omega, by omega, rfl⟩
      case measure => simp [intOf]; omega
end Go.Proofs.YtcleicjgeflbnaaGreatDoor
