/- Walks of the clock's functions and what they compute; part A1 of the proof of the laws of layer 3. Conditions: each theorem's own. Walks of the clock's functions and what they compute; part A2 of the proof of the laws of layer 3. Conditions: each theorem's own. Walks of the clock's functions and what they compute; part A3 of the proof of the laws of layer 3. Conditions: each theorem's own. Walks of the clock's functions and what they compute; part A4 of the proof of the laws of layer 3. Conditions: each theorem's own. -/
import Derived.Test.YtcleicjgeflbnaaGreatDoorProg
import Derived.WalkKit
import Derived.Below
import Derived.OwnWalk
import Derived.Laws.BytesArg
import Derived.Laws.MakeOwn
import Derived.Laws.NewBlocks
import Derived.KernelRfl
import Derived.IntWalk
import Derived.Deep.QuietTactic
import Derived.BigQuiet
import Derived.Lib.Hide
import Derived.Deep.RegionHeld3
namespace Go.Proofs.YtcleicjgeflbnaaGreatDoor
open Go.RowKit

def digs (n : Int) : Nat → List Int
  | 0 => []
  | k + 1 => digs (n / 10) k ++ [48 + n % 10]

theorem digs_length (n : Int) (k : Nat) : (digs n k).length = k := by
  induction k generalizing n with
  | zero => rfl
  | succ k ih => simp [digs, ih]

/-- What digits' array holds when the last places are done. -/
def dcells (k : Nat) (t : List Int) : Array Value := ((List.replicate k (0 : Int) ++ t).map (Value.int .u8)).toArray

theorem madeCells_dcells (m : Nat) : madeCells #[Value.int .u8 0] m = dcells m [] := by
  unfold madeCells dcells
  apply Array.ext
  · simp
  · intro j h1 h2
    simp at h1 h2 ⊢
    rw [Nat.mod_one]; rfl

theorem dcells_set (k : Nat) (c : Int) (t : List Int) : (dcells (k + 1) t).setIfInBounds k (.int .u8 c) = dcells k (c :: t) := by
  unfold dcells
  rw [List.setIfInBounds_toArray]
  congr 1
  rw [List.replicate_succ', List.append_assoc, List.map_append, List.map_append, List.set_append]
  simp

theorem dcells_get (t : List Int) (j : Nat) (h : j < t.length) : (dcells 0 t)[j]? = some (.int .u8 (t.getD j 0)) := by
  unfold dcells
  simp [List.getElem?_eq_getElem h, List.getD]

set_option maxRecDepth 100000 in
set_option maxHeartbeats 1000000 in
theorem digits_any (n : Int) (m : Nat) (h0 : 0 ≤ n) (hn : n < 1000000000) (hm : m ≤ 4) (w : World) :
    Calls Tryz.prog 81 #[.int .i64 n, .int .i64 m] w fun e w' => e = .returned (.string (strOfNums (digs n m))) ∧ Below w.heap.size w w' := by
  have i5 : ∃ i, Tryz.prog.info? 5 = some i ∧ i.zero = some (.int .u8 0) ∧ i.size = 1 ∧ i.bytes = 1 := by
    refine ⟨_, rfl, ?_, ?_, ?_⟩ <;> kernel_rfl
  obtain ⟨i, hi, hz, hs, hb⟩ := i5
  have hmk : ∀ W : World, (Instr.makeSlice 78 (.int .i64 m) (.int .i64 m)).run Tryz.prog W = .ok (.slice (some ⟨W.heap.size, 0, none⟩) m m) (W.alloc (.cells (dcells m []) 5)) := by
    intro W
    have := run_make (P := Tryz.prog) W 78 5 i (.int .u8 0) Tryz.underlying78 hi hz .i64 .i64 m m (by omega) (by omega) (by rw [hb]; omega) (by omega)
    rw [this, hs]
    simp [Value.cells, madeCells_dcells]
  clear hs hb hz hi
  go_enter Tryz.func81, Tryz.ntmps81
  go_wp2
  go_loopw [0, 6] (fun a b wr => ∃ (k : Nat) (q : Int) (t : List Int), k ≤ m ∧ 0 ≤ q ∧ q < 1000000000 ∧ a = .int .i64 q ∧ b = .int .i64 ((k : Int) - 1) ∧ digs q k ++ t = digs n m ∧ wr = w.alloc (.cells (dcells k t) 5))
    (fun _ b _ => (intOf b + 1).toNat)
  case atStart => exact ⟨m, n, [], Nat.le_refl _, h0, hn, rfl, rfl, by simp, rfl⟩
  case round =>
    obtain ⟨k, q, t, hk, hq0, hq1, rfl, rfl, ht, rfl⟩ := hrel
    cases k with
    | zero =>
      have htl : t.length = m := by rw [← List.nil_append t, show ([] : List Int) = digs q 0 from rfl, ht]; exact digs_length n m
      have hcv := run_convert_bytes_arg (P := Tryz.prog) (w.alloc (.cells (dcells 0 t) 5)) 78 5 Tryz.underlying78 Tryz.underlying5 w.heap.size 0 m m t htl (fun i hi => by
        rw [World.cell?_alloc_at _ _ _ _ rfl]
        simpa using dcells_get t i (by omega)) 9 Tryz.underlying9
      have ht' : t = digs n m := by simpa [digs] using ht
      rw [ht'] at hcv ⊢
      clear ht ht' htl
      go_wp2
      go_ret
      exact ⟨rfl, (Below.refl _ _).alloc (Nat.le_refl _) _⟩
    | succ k =>
      have hg : (dcells (k + 1) t)[k]? = some (.int .u8 0) := by
        unfold dcells
        simp [List.getElem?_append]
      have hs := dcells_set k (48 + q % 10) t
      go_wp2
      go_roundw
      case rel => exact ⟨k, q / 10, (48 + q % 10) :: t, by omega, by omega, by omega, rfl, rfl, by rw [← ht, digs, List.append_assoc]; rfl, rfl⟩
      case measure => simp [intOf]
end Go.Proofs.YtcleicjgeflbnaaGreatDoor
namespace Go.Proofs.YtcleicjgeflbnaaGreatDoor
open Go.RowKit

def minText (n : Int) : List Int := digs (n / 60) 2 ++ (58 :: digs (n % 60) 2)

theorem strOfNums_append (a b : List Int) : strOfNums a ++ strOfNums b = strOfNums (a ++ b) := by
  unfold strOfNums
  apply ByteArray.ext
  simp

theorem digits2 (n : Int) (h0 : 0 ≤ n) (hn : n < 1000000000) (w : World) :
    Calls Tryz.prog 81 #[.int .i64 n, .int .i64 2] w fun e w' => e = .returned (.string (strOfNums (digs n 2))) ∧ Below w.heap.size w w' :=
  digits_any n 2 h0 hn (by omega) w

theorem digits4 (n : Int) (h0 : 0 ≤ n) (hn : n < 1000000000) (w : World) :
    Calls Tryz.prog 81 #[.int .i64 n, .int .i64 4] w fun e w' => e = .returned (.string (strOfNums (digs n 4))) ∧ Below w.heap.size w w' :=
  digits_any n 4 h0 hn (by omega) w

theorem minute_no (n : Int) (h : n < 0 ∨ 1440 < n) (w : World) :
    Calls Tryz.prog 80 #[.int .i64 n] w fun e w' => e = .returned (.tuple #[.string ⟨#[]⟩, .bool false]) ∧ Below w.heap.size w w' := by
  rcases h with h | h
  · go_enter Tryz.func80, Tryz.ntmps80
    go_wp2
    go_ret2
    exact ⟨rfl, Below.refl _ _⟩
  · have h' : ¬ n < 0 := by omega
    go_enter Tryz.func80, Tryz.ntmps80
    go_wp2
    go_ret2
    exact ⟨rfl, Below.refl _ _⟩

theorem below_callA {w0 w w1 w2 : World} (h1 : Below w0.heap.size w w1) (h2 : Below w1.heap.size w1 w2) (hB : w0.heap.size ≤ w.heap.size := by omega) : Below w0.heap.size w w2 := by
  have := h1.size
  exact h1.trans (h2.mono (by omega))

set_option maxRecDepth 100000 in
set_option maxHeartbeats 1000000 in
theorem minute_yes (n : Int) (h0 : 0 ≤ n) (h1 : n ≤ 1440) (w : World) :
    Calls Tryz.prog 80 #[.int .i64 n] w fun e w' => e = .returned (.tuple #[.string (strOfNums (minText n)), .bool true]) ∧ Below w.heap.size w w' := by
  have h2 : ¬ n < 0 := by omega
  have h3 : ¬ 1440 < n := by omega
  have s1 := strOfNums_size (digs (n / 60) 2)
  have s2 := strOfNums_size (digs (n % 60) 2)
  rw [digs_length] at s1 s2
  go_enter Tryz.func80, Tryz.ntmps80
  go_wp2_with fail
  refine (digits2 _ (by omega) (by omega) _).mono ?_
  rintro e w1 ⟨rfl, hb1⟩
  go_wp2_with fail
  refine (digits2 _ (by omega) (by omega) _).mono ?_
  rintro e w2 ⟨rfl, hb2⟩
  go_wp2
  go_ret2
  refine ⟨?_, below_callA hb1 hb2⟩
  show Ending.returned (.tuple #[.string (strOfNums (digs (n / 60) 2) ++ ⟨#[58]⟩ ++ strOfNums (digs (n % 60) 2)), .bool true]) = _
  rw [show (⟨#[58]⟩ : ByteArray) = strOfNums [58] from rfl, strOfNums_append, strOfNums_append, List.append_assoc]
  rfl

def era (y : Int) : Int := 365 * y + y / 4 - y / 100 + y / 400
def march (m : Int) : Int := (153 * m + 2) / 5
def dFirst : Int := 693901

theorem era_any (y : Int) (h0 : 0 ≤ y) (h1 : y ≤ 100000) (w : World) :
    Calls Tryz.prog 103 #[.int .i64 y] w fun e w' => e = .returned (.int .i64 (era y)) ∧ w = w' := by
  go_enter Tryz.func103, Tryz.ntmps103
  go_wp2
  go_ret
  exact ⟨rfl, rfl⟩

theorem march_any (y : Int) (h0 : 0 ≤ y) (h1 : y ≤ 100000) (w : World) :
    Calls Tryz.prog 104 #[.int .i64 y] w fun e w' => e = .returned (.int .i64 (march y)) ∧ w = w' := by
  go_enter Tryz.func104, Tryz.ntmps104
  go_wp2
  go_ret
  exact ⟨rfl, rfl⟩

theorem first_any (w : World) : Calls Tryz.prog 102 #[] w fun e w' => e = .returned (.int .i64 693901) ∧ w = w' := by
  go_enter Tryz.func102, Tryz.ntmps102
  go_wp2_with (first | (go_at_call 103; refine (era_any _ (by omega) (by omega) _).mono ?_; rintro e w' ⟨rfl, rfl⟩) | (go_at_call 104; refine (march_any _ (by omega) (by omega) _).mono ?_; rintro e w' ⟨rfl, rfl⟩))
  go_ret
  exact ⟨by show Ending.returned (.int .i64 _) = _; congr 2; decide +kernel, rfl⟩

theorem year_parts (y : Int) : ∃ a b c d : Int, y = 400 * a + 100 * b + 4 * c + d ∧ 0 ≤ b ∧ b ≤ 3 ∧ 0 ≤ c ∧ c ≤ 24 ∧ 0 ≤ d ∧ d ≤ 3 :=
  ⟨y / 400, y % 400 / 100, y % 400 % 100 / 4, y % 400 % 100 % 4, by omega, by omega, by omega, by omega, by omega, by omega, by omega⟩

theorem era_step (y : Int) : era y + 365 ≤ era (y + 1) ∧ era (y + 1) ≤ era y + 366 := by
  obtain ⟨a, b, c, d, rfl, b0, b1, c0, c1, d0, d1⟩ := year_parts y
  unfold era
  have e1 : (400 * a + 100 * b + 4 * c + d) / 4 = 100 * a + 25 * b + c := by omega
  have e2 : (400 * a + 100 * b + 4 * c + d) / 100 = 4 * a + b := by omega
  have e3 : (400 * a + 100 * b + 4 * c + d) / 400 = a := by omega
  rw [e1, e2, e3]
  by_cases hd : d < 3
  · have f1 : (400 * a + 100 * b + 4 * c + d + 1) / 4 = 100 * a + 25 * b + c := by omega
    have f2 : (400 * a + 100 * b + 4 * c + d + 1) / 100 = 4 * a + b := by omega
    have f3 : (400 * a + 100 * b + 4 * c + d + 1) / 400 = a := by omega
    rw [f1, f2, f3]; omega
  · have f1 : (400 * a + 100 * b + 4 * c + d + 1) / 4 = 100 * a + 25 * b + c + 1 := by omega
    by_cases hc : c < 24
    · have f2 : (400 * a + 100 * b + 4 * c + d + 1) / 100 = 4 * a + b := by omega
      have f3 : (400 * a + 100 * b + 4 * c + d + 1) / 400 = a := by omega
      rw [f1, f2, f3]; omega
    · have f2 : (400 * a + 100 * b + 4 * c + d + 1) / 100 = 4 * a + b + 1 := by omega
      rw [f1, f2]; omega

def yOf (n : Int) : Int := if era (n / 365) ≤ n then n / 365 else if era (n / 365 - 1) ≤ n then n / 365 - 1 else n / 365 - 2
def dRest (n : Int) : Int := n + 693901 - era (yOf (n + 693901))
def dM (n : Int) : Int := (5 * dRest n + 2) / 153
def dD (n : Int) : Int := dRest n - march (dM n) + 1
def dateY (n : Int) : Int := if 10 ≤ dM n then yOf (n + 693901) + 1 else yOf (n + 693901)
def dateM (n : Int) : Int := if 10 ≤ dM n then dM n - 9 else dM n + 3

theorem yOf_spec (n : Int) (h0 : 693901 ≤ n) (h1 : n < 803839) : era (yOf n) ≤ n ∧ n < era (yOf n + 1) ∧ yOf n ≤ n / 365 ∧ n / 365 ≤ yOf n + 2 ∧ 1899 ≤ yOf n ∧ yOf n ≤ 2200 := by
  unfold yOf
  split
  · unfold era at *; refine ⟨?_, ?_, ?_, ?_, ?_, ?_⟩ <;> omega
  · split
    · rw [show n / 365 - 1 + 1 = n / 365 from by omega]; unfold era at *; refine ⟨?_, ?_, ?_, ?_, ?_, ?_⟩ <;> omega
    · rw [show n / 365 - 2 + 1 = n / 365 - 1 from by omega]; unfold era at *; refine ⟨?_, ?_, ?_, ?_, ?_, ?_⟩ <;> omega

theorem era_mono (a b : Int) (h : a ≤ b) : era a ≤ era b := by unfold era; omega

theorem dRest_bd (n : Int) (h0 : 0 ≤ n) (h1 : n < 109938) : 0 ≤ dRest n ∧ dRest n ≤ 365 := by
  obtain ⟨a, b, c, d, e, f⟩ := yOf_spec (n + 693901) (by omega) (by omega)
  unfold dRest
  have := era_step (yOf (n + 693901))
  omega

theorem dM_bd (n : Int) (h0 : 0 ≤ n) (h1 : n < 109938) : 0 ≤ dM n ∧ dM n ≤ 11 ∧ 1 ≤ dD n ∧ dD n ≤ 31 ∧ (dM n < 11 → dD n ≤ march (dM n + 1) - march (dM n)) := by
  have := dRest_bd n h0 h1
  unfold dD dM march
  generalize dRest n = r at *
  omega

def zdate : Value := .agg #[.int .i64 0, .int .i64 0, .int .i64 0]

theorem date_no (n : Int) (h : n < 0 ∨ 109938 ≤ n) (w : World) :
    Calls Tryz.prog 79 #[.int .i64 n] w fun e w' => e = .returned (.tuple #[.agg #[.int .i64 0, .int .i64 0, .int .i64 0], .bool false]) ∧ Below w.heap.size w w' := by
  rcases h with h | h
  · go_enter Tryz.func79, Tryz.ntmps79
    go_wp2
    exact bodyPost_ret (v := .tuple #[.agg #[.int .i64 0, .int .i64 0, .int .i64 0], .bool false]) (by simp [results, Tryz.results79, go_sem]) rfl ⟨rfl, by repeat (first | exact Below.refl _ _ | refine Below.setCell ?_ (by simp) _ | refine Below.alloc ?_ (by simp) _)⟩
  · have h' : ¬ n < 0 := by omega
    go_enter Tryz.func79, Tryz.ntmps79
    go_wp2
    exact bodyPost_ret (v := .tuple #[.agg #[.int .i64 0, .int .i64 0, .int .i64 0], .bool false]) (by simp [results, Tryz.results79, go_sem]) rfl ⟨rfl, by repeat (first | exact Below.refl _ _ | refine Below.setCell ?_ (by simp) _ | refine Below.alloc ?_ (by simp) _)⟩

set_option maxRecDepth 100000 in
set_option maxHeartbeats 1000000 in
theorem date_yes (n : Int) (h0 : 0 ≤ n) (h1 : n < 109938) (w : World) :
    Calls Tryz.prog 79 #[.int .i64 n] w fun e w' => e = .returned (.tuple #[.agg #[.int .i64 (dateY n), .int .i64 (dateM n), .int .i64 (dD n)], .bool true]) ∧ Below w.heap.size w w' := by
  have h2 : ¬ n < 0 := by omega
  have h3 : ¬ 109938 ≤ n := by omega
  have hys := yOf_spec (n + 693901) (by omega) (by omega)
  have hrb := dRest_bd n h0 h1
  have hmb := dM_bd n h0 h1
  go_enter Tryz.func79, Tryz.ntmps79
  go_wp2_with (go_at_call 102; refine (first_any _).mono ?_; rintro e w' ⟨rfl, rfl⟩)
  go_loop [4] (fun a => ∃ y : Int, yOf (n + 693901) ≤ y ∧ y ≤ (n + 693901) / 365 ∧ a = .int .i64 y) (fun a => (intOf a).toNat)
  case atStart => exact ⟨(n + 693901) / 365, hys.2.2.1, by omega, rfl⟩
  case round =>
    obtain ⟨y, hy0, hy1, rfl⟩ := hrel
    by_cases hc : y = yOf (n + 693901)
    · have hr : n + 693901 - era y = dRest n := by rw [hc]; rfl
      have he : ¬ n + 693901 < era y := by omega
      have hy2 : 0 ≤ y := by omega
      have hy3 : y ≤ 3000 := by omega
      have hM : (5 * (n + 693901 - era y) + 2) / 153 = dM n := by rw [hr]; rfl
      have hD : n + 693901 - era y - march ((5 * (n + 693901 - era y) + 2) / 153) + 1 = dD n := by rw [hM, hr]; rfl
      have hb1 : 0 ≤ n + 693901 - era y := by omega
      have hb2 : n + 693901 - era y ≤ 365 := by omega
      have hb3 : 0 ≤ march ((5 * (n + 693901 - era y) + 2) / 153) := by unfold march; omega
      have hb4 : march ((5 * (n + 693901 - era y) + 2) / 153) ≤ 365 := by unfold march; omega
      have Hc := Lib.hid hc; have HM := Lib.hid hM; have HD := Lib.hid hD
      by_cases hm : 10 ≤ (5 * (n + 693901 - era y) + 2) / 153
      all_goals
        have hm' := hm
        rw [hM] at hm'
        have HY := Lib.hid (show (if 10 ≤ dM n then dateY n = y + 1 ∧ dateM n = dM n - 9 else dateY n = y ∧ dateM n = dM n + 3) by unfold dateY dateM; rw [← hc]; split <;> exact ⟨rfl, rfl⟩)
        have Hm := Lib.hid hm'
        clear hc hM hD hm' hr hys hrb hmb hy0 hy1
        go_wp2_with fail
        refine (era_any _ (by omega) (by omega) _).mono ?_; rintro e w' ⟨rfl, rfl⟩
        go_wp2_with fail
        refine (era_any _ (by omega) (by omega) _).mono ?_; rintro e w' ⟨rfl, rfl⟩
        go_wp2_with fail
        refine (march_any _ (by omega) (by omega) _).mono ?_; rintro e w' ⟨rfl, rfl⟩
        go_wp2
      · have hy := HY.out
        rw [if_pos Hm.out, ← HM.out] at hy
        have hd := HD.out
        refine bodyPost_ret (v := .tuple #[.agg #[.int .i64 (y + 1), .int .i64 ((5 * (n + 693901 - era y) + 2) / 153 - 9), .int .i64 (n + 693901 - era y - march ((5 * (n + 693901 - era y) + 2) / 153) + 1)], .bool true]) (by simp [results, Tryz.results79, go_sem]) rfl ⟨by rw [hy.1, hy.2, hd], by repeat (first | exact Below.refl _ _ | refine Below.setCell ?_ (by simp) _ | refine Below.alloc ?_ (by simp) _)⟩
      · have hy := HY.out
        rw [if_neg (by have := Hm.out; omega), ← HM.out] at hy
        have hd := HD.out
        refine bodyPost_ret (v := .tuple #[.agg #[.int .i64 y, .int .i64 ((5 * (n + 693901 - era y) + 2) / 153 + 3), .int .i64 (n + 693901 - era y - march ((5 * (n + 693901 - era y) + 2) / 153) + 1)], .bool true]) (by simp [results, Tryz.results79, go_sem]) rfl ⟨by rw [hy.1, hy.2, hd], by repeat (first | exact Below.refl _ _ | refine Below.setCell ?_ (by simp) _ | refine Below.alloc ?_ (by simp) _)⟩
    · have he : n + 693901 < era y := by
        have := era_mono (yOf (n + 693901) + 1) y (by omega)
        omega
      go_wp2_with (first | (go_at_call 103; refine (era_any _ (by omega) (by omega) _).mono ?_; rintro e w' ⟨rfl, rfl⟩) | (go_at_call 104; refine (march_any _ (by omega) (by omega) _).mono ?_; rintro e w' ⟨rfl, rfl⟩))
      go_round
      case rel => exact ⟨y - 1, by omega, by omega, rfl⟩
      case measure => simp [intOf]; omega
end Go.Proofs.YtcleicjgeflbnaaGreatDoor
namespace Go.Proofs.YtcleicjgeflbnaaGreatDoor
open Go.RowKit

def sDay (n : Int) : Int := if n = 158310720 then 109937 else n / 1440
def sMin (n : Int) : Int := if n = 158310720 then 1440 else n % 1440
def stampText (n : Int) : List Int := digs (dateY (sDay n)) 4 ++ (45 :: (digs (dateM (sDay n)) 2 ++ (45 :: (digs (dD (sDay n)) 2 ++ (84 :: minText (sMin n))))))

theorem ret_str {a b : ByteArray} {c : Value} (h : a = b) : Ending.returned (.tuple #[.string a, c]) = Ending.returned (.tuple #[.string b, c]) := by rw [h]

theorem stamp_no (n : Int) (h : n < 0 ∨ 158310720 < n) (w : World) :
    Calls Tryz.prog 59 #[.int .i64 n] w fun e w' => e = .returned (.tuple #[.string ⟨#[]⟩, .bool false]) ∧ Below w.heap.size w w' := by
  rcases h with h | h
  · go_enter Tryz.func59, Tryz.ntmps59
    go_wp2
    go_ret2
    exact ⟨rfl, Below.refl _ _⟩
  · have h' : ¬ n < 0 := by omega
    go_enter Tryz.func59, Tryz.ntmps59
    go_wp2
    go_ret2
    exact ⟨rfl, Below.refl _ _⟩

theorem date_bd (n : Int) (h0 : 0 ≤ n) (h1 : n < 109938) : 1899 ≤ dateY n ∧ dateY n ≤ 2201 ∧ 1 ≤ dateM n ∧ dateM n ≤ 12 ∧ 1 ≤ dD n ∧ dD n ≤ 31 := by
  have a := yOf_spec (n + 693901) (by omega) (by omega)
  have b := dM_bd n h0 h1
  unfold dateY dateM
  split <;> omega

set_option maxRecDepth 100000 in
set_option maxHeartbeats 4000000 in
theorem stamp_tail (x n : Int) (hx : 0 ≤ x ∧ x < 109938) (h0 : 0 ≤ n) (h1 : n ≤ 158310720) (hn : sDay n = x) (w : World) :
    Calls Tryz.prog 59 #[.int .i64 n] w fun e w' => e = .returned (.tuple #[.string (strOfNums (stampText n)), .bool true]) ∧ Below w.heap.size w w' := by
  have h2 : ¬ n < 0 := by omega
  have h3 : ¬ 158310720 < n := by omega
  have hb := date_bd x (by omega) (by omega)
  have s1 := strOfNums_size (digs (dateY x) 4)
  have s2 := strOfNums_size (digs (dateM x) 2)
  have s3 := strOfNums_size (digs (dD x) 2)
  have s4 := strOfNums_size (minText (sMin n))
  rw [digs_length] at s1 s2 s3
  have s5 : (minText (sMin n)).length = 5 := by simp [minText, digs_length]
  rw [s5] at s4
  have hfin : strOfNums (digs (dateY x) 4) ++ ⟨#[45]⟩ ++ strOfNums (digs (dateM x) 2) ++ ⟨#[45]⟩ ++ strOfNums (digs (dD x) 2) ++ ⟨#[84]⟩ ++ strOfNums (minText (sMin n)) = strOfNums (stampText n) := by
    rw [show (⟨#[45]⟩ : ByteArray) = strOfNums [45] from rfl, show (⟨#[84]⟩ : ByteArray) = strOfNums [84] from rfl]
    simp only [strOfNums_append, stampText, hn, List.append_assoc, List.cons_append, List.nil_append]
  have Hfin := Lib.hid hfin
  clear hfin s5
  have hday : n = 158310720 ∧ x = 109937 ∧ sMin n = 1440 ∨ n ≠ 158310720 ∧ x = n / 1440 ∧ sMin n = n % 1440 := by
    unfold sDay sMin at *; split at hn <;> simp_all
  rcases hday with ⟨e1, e2, e3⟩ | ⟨e1, e2, e3⟩
  · subst e1 e2
    rw [e3] at s4 Hfin
    clear e3 hn
    go_enter Tryz.func59, Tryz.ntmps59
    go_wp2_with fail
    refine (date_yes _ (by omega) (by omega) _).mono ?_
    rintro e w1 ⟨rfl, hb1⟩
    go_wp2_with fail
    refine (minute_yes _ (by omega) (by omega) _).mono ?_
    rintro e w2 ⟨rfl, hb2⟩
    have hc : w2.cell? ⟨w1.heap.size, 0, none⟩ = some (.int .i64 (dateY 109937)) ∧ w2.cell? ⟨w1.heap.size, 1, none⟩ = some (.int .i64 (dateM 109937)) ∧ w2.cell? ⟨w1.heap.size, 2, none⟩ = some (.int .i64 (dD 109937)) := by
      refine ⟨?_, ?_, ?_⟩ <;> (rw [hb2.cell (by simp)]; simp [go_sem])
    obtain ⟨c1, c2, c3⟩ := hc
    have hz : w1.heap.size < w2.heap.size := by have := hb2.size; simp at this; omega
    go_wp2
    go_region_held3 (fun W => W.cell? ⟨w1.heap.size, 0, none⟩ = some (.int .i64 (dateY 109937)) ∧ W.cell? ⟨w1.heap.size, 1, none⟩ = some (.int .i64 (dateM 109937)) ∧ W.cell? ⟨w1.heap.size, 2, none⟩ = some (.int .i64 (dD 109937)) ∧ w1.heap.size < W.heap.size ∧ Below w2.heap.size w2 W)
      (first
        | exact ⟨by rw [World.cell?_drew]; exact c1, by rw [World.cell?_drew]; exact c2, by rw [World.cell?_drew]; exact c3, hz, (Below.refl _ _).drew⟩
        | (obtain ⟨q1, q2, q3, q4, q5⟩ := ‹_ ∧ _ ∧ _ ∧ _ ∧ Below _ _ _›; exact ⟨(hbb.cell (by exact q4)).trans q1, (hbb.cell (by exact q4)).trans q2, (hbb.cell (by exact q4)).trans q3, (by have := hbb.size; omega), below_callA q5 hbb (by have := hb2.size; omega)⟩))
      (first | (go_at_call 81; (with_reducible refine (digits4 _ ?_ ?_ _).mono ?_); omega; omega; rintro e w' ⟨rfl, hbb⟩) | (go_at_call 81; (with_reducible refine (digits2 _ ?_ ?_ _).mono ?_); omega; omega; rintro e w' ⟨rfl, hbb⟩))
    go_wp2
    go_ret2
    obtain ⟨q1, q2, q3, q4, q5⟩ := ‹_ ∧ _ ∧ _ ∧ _ ∧ Below _ _ _›
    refine ⟨?_, ?_⟩
    · exact ret_str Hfin.out
    · exact below_callA (below_callA hb1 (((Below.refl _ _).alloc (Nat.le_refl _) _).trans (hb2.mono (by simp)))) q5 (by have := hb1.size; omega)
  · have He2 := Lib.hid e2
    rw [e3] at s4 Hfin
    have hx0 : 0 ≤ n / 1440 := by omega
    rw [e2] at hx hb s1 s2 s3 Hfin
    clear e3 hn e2
    go_enter Tryz.func59, Tryz.ntmps59
    go_wp2_with fail
    refine (date_yes _ (by omega) (by omega) _).mono ?_
    rintro e w1 ⟨rfl, hb1⟩
    go_wp2_with fail
    refine (minute_yes _ (by omega) (by omega) _).mono ?_
    rintro e w2 ⟨rfl, hb2⟩
    have hc : w2.cell? ⟨w1.heap.size, 0, none⟩ = some (.int .i64 (dateY (n / 1440))) ∧ w2.cell? ⟨w1.heap.size, 1, none⟩ = some (.int .i64 (dateM (n / 1440))) ∧ w2.cell? ⟨w1.heap.size, 2, none⟩ = some (.int .i64 (dD (n / 1440))) := by
      refine ⟨?_, ?_, ?_⟩ <;> (rw [hb2.cell (by simp)]; simp [go_sem])
    obtain ⟨c1, c2, c3⟩ := hc
    have hz : w1.heap.size < w2.heap.size := by have := hb2.size; simp at this; omega
    go_wp2
    go_region_held3 (fun W => W.cell? ⟨w1.heap.size, 0, none⟩ = some (.int .i64 (dateY (n / 1440))) ∧ W.cell? ⟨w1.heap.size, 1, none⟩ = some (.int .i64 (dateM (n / 1440))) ∧ W.cell? ⟨w1.heap.size, 2, none⟩ = some (.int .i64 (dD (n / 1440))) ∧ w1.heap.size < W.heap.size ∧ Below w2.heap.size w2 W)
      (first
        | exact ⟨by rw [World.cell?_drew]; exact c1, by rw [World.cell?_drew]; exact c2, by rw [World.cell?_drew]; exact c3, hz, (Below.refl _ _).drew⟩
        | (obtain ⟨q1, q2, q3, q4, q5⟩ := ‹_ ∧ _ ∧ _ ∧ _ ∧ Below _ _ _›; exact ⟨(hbb.cell (by exact q4)).trans q1, (hbb.cell (by exact q4)).trans q2, (hbb.cell (by exact q4)).trans q3, (by have := hbb.size; omega), below_callA q5 hbb (by have := hb2.size; omega)⟩))
      (first | (go_at_call 81; (with_reducible refine (digits4 _ ?_ ?_ _).mono ?_); omega; omega; rintro e w' ⟨rfl, hbb⟩) | (go_at_call 81; (with_reducible refine (digits2 _ ?_ ?_ _).mono ?_); omega; omega; rintro e w' ⟨rfl, hbb⟩))
    go_wp2
    go_ret2
    obtain ⟨q1, q2, q3, q4, q5⟩ := ‹_ ∧ _ ∧ _ ∧ _ ∧ Below _ _ _›
    refine ⟨?_, ?_⟩
    · exact ret_str Hfin.out
    · exact below_callA (below_callA hb1 (((Below.refl _ _).alloc (Nat.le_refl _) _).trans (hb2.mono (by simp)))) q5 (by have := hb1.size; omega)

theorem stamp_yes (n : Int) (h0 : 0 ≤ n) (h1 : n ≤ 158310720) (w : World) :
    Calls Tryz.prog 59 #[.int .i64 n] w fun e w' => e = .returned (.tuple #[.string (strOfNums (stampText n)), .bool true]) ∧ Below w.heap.size w w' :=
  stamp_tail (sDay n) n (by unfold sDay; split <;> omega) h0 h1 rfl w
end Go.Proofs.YtcleicjgeflbnaaGreatDoor
namespace Go.Proofs.YtcleicjgeflbnaaGreatDoor
open Go.RowKit

def ll : List Int → List Int → Bool
  | _, [] => false
  | [], _ :: _ => true
  | a :: x, b :: y => decide (a < b) || (decide (a = b) && ll x y)

theorem ll_bytes (x : List Int) : ∀ (y : List Int), (∀ c ∈ x, 0 ≤ c ∧ c < 256) → (∀ c ∈ y, 0 ≤ c ∧ c < 256) →
    Op.bytesLess (x.map fun n => UInt8.ofNat n.toNat) (y.map fun n => UInt8.ofNat n.toNat) = ll x y := by
  induction x with
  | nil => intro y _ _; cases y <;> simp [Op.bytesLess, ll]
  | cons a x ih =>
    intro y hx hy
    cases y with
    | nil => simp [Op.bytesLess, ll]
    | cons b y =>
      have ha := hx a (by simp)
      have hb := hy b (by simp)
      have e1 : decide (UInt8.ofNat a.toNat < UInt8.ofNat b.toNat) = decide (a < b) := by
        rw [decide_eq_decide, UInt8.lt_iff_toNat_lt, UInt8.toNat_ofNat', UInt8.toNat_ofNat']; omega
      have e2 : (UInt8.ofNat a.toNat == UInt8.ofNat b.toNat) = decide (a = b) := by
        rw [Bool.eq_iff_iff, beq_iff_eq, decide_eq_true_iff, ← UInt8.toNat_inj, UInt8.toNat_ofNat', UInt8.toNat_ofNat']; omega
      simp only [List.map_cons, Op.bytesLess, ll]
      rw [ih y (fun c hc => hx c (by simp [hc])) (fun c hc => hy c (by simp [hc])), e2]
      congr 1

theorem ll_append (a : List Int) : ∀ (b c d : List Int), a.length = b.length → (ll (a ++ c) (b ++ d) = true ↔ ll a b = true ∨ a = b ∧ ll c d = true) := by
  induction a with
  | nil => intro b c d h; cases b with
    | nil => simp [ll]
    | cons => simp at h
  | cons x a ih =>
    intro b c d hl
    cases b with
    | nil => simp at hl
    | cons y b =>
      have := ih b c d (by simpa using hl)
      simp only [List.cons_append, ll, Bool.or_eq_true, Bool.and_eq_true, decide_eq_true_eq, this, List.cons.injEq]
      constructor
      · rintro (h | ⟨rfl, h | ⟨rfl, h⟩⟩)
        · exact .inl (.inl h)
        · exact .inl (.inr ⟨rfl, h⟩)
        · exact .inr ⟨⟨rfl, rfl⟩, h⟩
      · rintro ((h | ⟨rfl, h⟩) | ⟨⟨rfl, rfl⟩, h⟩)
        · exact .inl h
        · exact .inr ⟨rfl, .inl h⟩
        · exact .inr ⟨rfl, .inr ⟨rfl, h⟩⟩

theorem ll_cons (x : Int) (c d : List Int) : (ll (x :: c) (x :: d) = true) ↔ ll c d = true := by simp [ll]

theorem digs_inj (k : Nat) : ∀ (x y : Int), 0 ≤ x → 0 ≤ y → x < 10 ^ k → y < 10 ^ k → (digs x k = digs y k ↔ x = y) := by
  induction k with
  | zero => intro x y _ _ h1 h2; simp at h1 h2; constructor <;> (intro; first | omega | (simp [digs]))
  | succ k ih =>
    intro x y hx hy h1 h2
    have p : (10 : Int) ^ (k + 1) = 10 ^ k * 10 := Int.pow_succ _ _
    have := ih (x / 10) (y / 10) (by omega) (by omega) (by omega) (by omega)
    constructor
    · intro h
      have h' := List.append_inj h (by simp [digs_length])
      have a := this.1 h'.1
      have b := h'.2
      simp at b
      omega
    · rintro rfl; rfl

theorem digs_ll (k : Nat) : ∀ (x y : Int), 0 ≤ x → 0 ≤ y → x < 10 ^ k → y < 10 ^ k → (ll (digs x k) (digs y k) = true ↔ x < y) := by
  induction k with
  | zero => intro x y _ _ h1 h2; simp at h1 h2; simp [digs, ll]; omega
  | succ k ih =>
    intro x y hx hy h1 h2
    have p : (10 : Int) ^ (k + 1) = 10 ^ k * 10 := Int.pow_succ _ _
    have i1 := ih (x / 10) (y / 10) (by omega) (by omega) (by omega) (by omega)
    have i2 := digs_inj k (x / 10) (y / 10) (by omega) (by omega) (by omega) (by omega)
    rw [digs, digs, ll_append _ _ _ _ (by simp [digs_length]), i1, i2]
    simp [ll]
    omega

theorem minText_ll (x y : Int) (hx : 0 ≤ x) (hy : 0 ≤ y) (h1 : x ≤ 1440) (h2 : y ≤ 1440) : ll (minText x) (minText y) = true ↔ x < y := by
  unfold minText
  rw [ll_append _ _ _ _ (by simp [digs_length]), ll_cons, digs_ll 2 _ _ (by omega) (by omega) (by omega) (by omega), digs_inj 2 _ _ (by omega) (by omega) (by omega) (by omega), digs_ll 2 _ _ (by omega) (by omega) (by omega) (by omega)]
  omega

/-- The number of the day on which a month begins, months counted from March of the year 0 on. -/
def mBegin (y m : Int) : Int := era y + march m
theorem mBegin_lt (y1 m1 y2 m2 : Int) (h1 : 0 ≤ m1 ∧ m1 ≤ 11) (h2 : 0 ≤ m2 ∧ m2 ≤ 11) (h : 12 * y1 + m1 < 12 * y2 + m2) (d : Int)
    (hd : (m1 < 11 → d ≤ march (m1 + 1) - march m1) ∧ (m1 = 11 → d ≤ era (y1 + 1) - mBegin y1 11)) : mBegin y1 m1 + d ≤ mBegin y2 m2 := by
  unfold mBegin at *
  by_cases e : y1 = y2
  · subst e
    have := hd.1 (by omega)
    unfold march at *; omega
  · have := era_mono (y1 + 1) y2 (by omega)
    by_cases hm : m1 < 11
    · have := hd.1 hm
      have := era_step y1
      unfold march at *; omega
    · have e11 : m1 = 11 := by omega
      subst e11
      have := hd.2 rfl
      unfold march at *; omega

theorem date_lt (a b : Int) (ha : 0 ≤ a ∧ a < 109938) (hb : 0 ≤ b ∧ b < 109938) (h : a < b) :
    dateY a < dateY b ∨ dateY a = dateY b ∧ (dateM a < dateM b ∨ dateM a = dateM b ∧ dD a < dD b) := by
  have ya := yOf_spec (a + 693901) (by omega) (by omega)
  have yb := yOf_spec (b + 693901) (by omega) (by omega)
  have da := dM_bd a ha.1 ha.2
  have db := dM_bd b hb.1 hb.2
  have ea : mBegin (yOf (a + 693901)) (dM a) + dD a = a + 693902 := by unfold mBegin dD dRest; omega
  have eb : mBegin (yOf (b + 693901)) (dM b) + dD b = b + 693902 := by unfold mBegin dD dRest; omega
  have hlast : dM b = 11 → dD b ≤ era (yOf (b + 693901) + 1) - mBegin (yOf (b + 693901)) 11 := by
    intro e
    rw [e] at eb
    omega
  have key : ¬ (12 * yOf (b + 693901) + dM b < 12 * yOf (a + 693901) + dM a) := by
    intro hlt
    have := mBegin_lt _ _ _ _ ⟨db.1, db.2.1⟩ ⟨da.1, da.2.1⟩ hlt (dD b) ⟨db.2.2.2.2, hlast⟩
    omega
  have same : yOf (a + 693901) = yOf (b + 693901) → dM a = dM b → dD a < dD b := by
    intro e1 e2
    rw [e1, e2] at ea
    omega
  unfold dateY dateM
  clear ea eb hlast
  generalize yOf (a + 693901) = y1 at *
  generalize yOf (b + 693901) = y2 at *
  split <;> split <;> omega

theorem stampText_ll (a b : Int) (ha : 0 ≤ a ∧ a ≤ 158310720) (hb : 0 ≤ b ∧ b ≤ 158310720) : ll (stampText a) (stampText b) = true ↔ a < b := by
  have da : 0 ≤ sDay a ∧ sDay a < 109938 ∧ 0 ≤ sMin a ∧ sMin a ≤ 1440 ∧ a = 1440 * sDay a + sMin a ∧ (sMin a = 1440 → sDay a = 109937) := by unfold sDay sMin; split <;> omega
  have db : 0 ≤ sDay b ∧ sDay b < 109938 ∧ 0 ≤ sMin b ∧ sMin b ≤ 1440 ∧ b = 1440 * sDay b + sMin b ∧ (sMin b = 1440 → sDay b = 109937) := by unfold sDay sMin; split <;> omega
  have ba := date_bd (sDay a) da.1 da.2.1
  have bb := date_bd (sDay b) db.1 db.2.1
  unfold stampText
  rw [ll_append _ _ _ _ (by simp [digs_length]), ll_cons, ll_append _ _ _ _ (by simp [digs_length]), ll_cons, ll_append _ _ _ _ (by simp [digs_length]), ll_cons,
    digs_ll 4 _ _ (by omega) (by omega) (by omega) (by omega), digs_inj 4 _ _ (by omega) (by omega) (by omega) (by omega),
    digs_ll 2 _ _ (by omega) (by omega) (by omega) (by omega), digs_inj 2 _ _ (by omega) (by omega) (by omega) (by omega),
    digs_ll 2 _ _ (by omega) (by omega) (by omega) (by omega), digs_inj 2 _ _ (by omega) (by omega) (by omega) (by omega),
    minText_ll _ _ (by omega) (by omega) (by omega) (by omega)]
  rcases Int.lt_trichotomy (sDay a) (sDay b) with h | h | h
  · have := date_lt _ _ ⟨da.1, da.2.1⟩ ⟨db.1, db.2.1⟩ h
    omega
  · rw [h]; omega
  · have := date_lt _ _ ⟨db.1, db.2.1⟩ ⟨da.1, da.2.1⟩ h
    omega

theorem digs_byte (k : Nat) : ∀ (n : Int), ∀ c ∈ digs n k, 0 ≤ c ∧ c < 256 := by
  induction k with
  | zero => intro n c h; simp [digs] at h
  | succ k ih => intro n c h; rw [digs, List.mem_append] at h; rcases h with h | h; exact ih _ _ h; simp at h; omega

theorem minText_byte (n : Int) : ∀ c ∈ minText n, 0 ≤ c ∧ c < 256 := by
  intro c h
  simp only [minText, List.mem_append, List.mem_cons] at h
  rcases h with h | rfl | h
  · exact digs_byte _ _ _ h
  · decide
  · exact digs_byte _ _ _ h

theorem stampText_byte (n : Int) : ∀ c ∈ stampText n, 0 ≤ c ∧ c < 256 := by
  intro c h
  simp only [stampText, List.mem_append, List.mem_cons] at h
  rcases h with h | rfl | h | rfl | h | rfl | h
  · exact digs_byte _ _ _ h
  · decide
  · exact digs_byte _ _ _ h
  · decide
  · exact digs_byte _ _ _ h
  · decide
  · exact minText_byte _ _ h

end Go.Proofs.YtcleicjgeflbnaaGreatDoor
