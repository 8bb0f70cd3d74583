/- The walks of the document's dates. Conditions: each theorem's own. -/
import Derived.Test.YtechgcjdigpglaaGreatH2
import Derived.Deep.RegionHeld3
namespace Go.Proofs.YtechgcjdigpglaaGreat
open Go.RowKit
set_option linter.all false

theorem refLeap_any (y : Int) (h0 : 0 ≤ y) (h1 : y ≤ 100000) (w : World) :
    Calls Tryz.prog 192 #[.int .i64 y] w fun e w' => e = .returned (.bool (leapB y)) ∧ w = w' := by
  have H : leapB y = ((y % 4 == 0 && y % 100 != 0) || y % 400 == 0) := rfl
  have n1 : (y % 100 != 0) = !(y % 100 == 0) := rfl
  cases h4 : (y % 4 == 0) <;> cases h100 : (y % 100 == 0) <;> cases h400 : (y % 400 == 0) <;>
  · rw [h100] at n1
    rw [h4, n1, h400] at H
    have H' := Lib.hid H
    clear H
    simp only [Bool.not_false, Bool.not_true] at n1
    go_enter Tryz.func192, Tryz.ntmps192
    go_wp2
    go_ret
    exact ⟨ret_b H'.out.symm, rfl⟩
set_option maxHeartbeats 2000000 in
theorem refLength_any (y m : Int) (h0 : 0 ≤ y) (h1 : y ≤ 100000) (hm0 : 1 ≤ m) (hm1 : m ≤ 12) (w : World) :
    Calls Tryz.prog 151 #[.int .i64 y, .int .i64 m] w fun e w' => e = .returned (.int .i64 (lenM y m)) ∧ Below w.heap.size w w' := by
  have hm : m = 1 ∨ m = 2 ∨ m = 3 ∨ m = 4 ∨ m = 5 ∨ m = 6 ∨ m = 7 ∨ m = 8 ∨ m = 9 ∨ m = 10 ∨ m = 11 ∨ m = 12 := by omega
  have hl := leapN_b y
  have D := Lib.hid (fun w => refLeap_any y h0 h1 w)
  have HL := Lib.hid hl
  clear hl hm0 hm1
  cases hb : leapB y <;> rw [hb] at D HL <;> clear hb <;>
  (rcases hm with rfl | rfl | rfl | rfl | rfl | rfl | rfl | rfl | rfl | rfl | rfl | rfl <;>
  · go_enter Tryz.func151, Tryz.ntmps151
    go_wp2_with (go_at_call 192; (with_reducible refine (D.out _).mono ?_); rintro e w' ⟨rfl, rfl⟩)
    go_ret
    exact ⟨ret_i (by have := HL.out; simp [lenM, this]), (Below.refl _ _).alloc (Nat.le_refl _) _⟩)
set_option maxHeartbeats 4000000 in
theorem refDMay_any (y m d : Int) (h0 : -1 ≤ y) (h1 : y ≤ 10000) (hm0 : -1 ≤ m) (hm1 : m ≤ 10000) (b : Bool) (hb : b = true ↔ validD y m d) (w : World) :
    Calls Tryz.prog 193 #[.agg #[.int .i64 y, .int .i64 m, .int .i64 d]] w fun e w' => e = .returned (.bool b) ∧ Below w.heap.size w w' := by
  have hbd := lenM_bd y m
  have hout := lenM_out y m
  by_cases v1 : 1900 ≤ y
  · by_cases v2 : y ≤ 2200
    · by_cases v4 : 1 ≤ m
      · by_cases v5 : m ≤ 12
        · by_cases v3 : 1 ≤ d
          · have hb' : b = decide (d ≤ lenM y m) := by
              rw [Bool.eq_iff_iff, hb, decide_eq_true_iff]; unfold validD; omega
            have Hb := Lib.hid hb'.symm
            clear hb hb' hout
            go_enter Tryz.func193, Tryz.ntmps193
            go_wp2
            go_region_held3 (fun W => W.cell? ⟨w.heap.size, 0, none⟩ = some (.int .i64 y) ∧ W.cell? ⟨w.heap.size, 1, none⟩ = some (.int .i64 m) ∧ W.cell? ⟨w.heap.size, 2, none⟩ = some (.int .i64 d) ∧ w.heap.size < W.heap.size ∧ Below w.heap.size w W)
              (first
                | exact ⟨by simp [go_sem], by simp [go_sem], by simp [go_sem], by simp, ((Below.refl _ _).alloc (Nat.le_refl _) _).drew⟩
                | (obtain ⟨q1, q2, q3, q4, q5⟩ := ‹_ ∧ _ ∧ _ ∧ _ ∧ Below _ _ _›; exact ⟨(hbb.cell (by exact q4)).trans q1, (hbb.cell (by exact q4)).trans q2, (hbb.cell (by exact q4)).trans q3, (by have := hbb.size; omega), below_call q5 hbb⟩))
              (first | (go_at_call 151; (with_reducible refine (refLength_any y m ?_ ?_ ?_ ?_ _).mono ?_); omega; omega; omega; omega; rintro e w' ⟨rfl, hbb⟩))
            go_wp2
            go_ret
            obtain ⟨q1, q2, q3, q4, q5⟩ := ‹_ ∧ _ ∧ _ ∧ _ ∧ Below _ _ _›
            exact ⟨ret_b Hb.out, q5⟩
          · have hb' : b = false := by
              rw [Bool.eq_false_iff]; intro e; have := hb.1 e; unfold validD at this; omega
            subst hb'
            have h3 : decide (1 ≤ d) = false := decide_eq_false v3
            clear hb hout
            go_enter Tryz.func193, Tryz.ntmps193
            go_wp2
            go_quiet (fail)
            go_wp2
            go_ret
            exact ⟨rfl, below_drewN ((Below.refl _ _).alloc (Nat.le_refl _) _) _⟩
        · have hb' : b = false := by
            rw [Bool.eq_false_iff]; intro e; have := hb.1 e; unfold validD at this; have := hout (by omega); omega
          subst hb'
          have h3 : decide (m ≤ 12) = false := decide_eq_false v5
          clear hb hout
          go_enter Tryz.func193, Tryz.ntmps193
          go_wp2
          go_quiet (fail)
          go_wp2
          go_ret
          exact ⟨rfl, below_drewN ((Below.refl _ _).alloc (Nat.le_refl _) _) _⟩
      · have hb' : b = false := by
          rw [Bool.eq_false_iff]; intro e; have := hb.1 e; unfold validD at this; have := hout (by omega); omega
        subst hb'
        have h3 : decide (1 ≤ m) = false := decide_eq_false v4
        clear hb hout
        go_enter Tryz.func193, Tryz.ntmps193
        go_wp2
        go_quiet (fail)
        go_wp2
        go_ret
        exact ⟨rfl, below_drewN ((Below.refl _ _).alloc (Nat.le_refl _) _) _⟩
    · have hb' : b = false := by
        rw [Bool.eq_false_iff]; intro e; have := hb.1 e; unfold validD at this; omega
      subst hb'
      have h3 : decide (y ≤ 2200) = false := decide_eq_false v2
      clear hb hout
      go_enter Tryz.func193, Tryz.ntmps193
      go_wp2
      go_quiet (fail)
      go_wp2
      go_ret
      exact ⟨rfl, below_drewN ((Below.refl _ _).alloc (Nat.le_refl _) _) _⟩
  · have hb' : b = false := by
      rw [Bool.eq_false_iff]; intro e; have := hb.1 e; unfold validD at this; omega
    subst hb'
    have h3 : decide (1900 ≤ y) = false := decide_eq_false v1
    clear hb hout
    go_enter Tryz.func193, Tryz.ntmps193
    go_wp2
    go_quiet (fail)
    go_wp2
    go_ret
    exact ⟨rfl, below_drewN ((Below.refl _ _).alloc (Nat.le_refl _) _) _⟩
theorem ret_date {a b c a' b' c' : Int} {o : Value} (h : a = a' ∧ b = b' ∧ c = c') : Ending.returned (.tuple #[.agg #[.int .i64 a, .int .i64 b, .int .i64 c], o]) = Ending.returned (.tuple #[.agg #[.int .i64 a', .int .i64 b', .int .i64 c'], o]) := by rw [h.1, h.2.1, h.2.2]
theorem ret_ib {a b : Int} {c : Bool} (h : a = b) : Ending.returned (.tuple #[.int .i64 a, .bool c]) = Ending.returned (.tuple #[.int .i64 b, .bool c]) := by rw [h]
set_option maxHeartbeats 2000000 in
theorem refNum_no (y m d : Int) (h0 : -1 ≤ y) (h1 : y ≤ 10000) (hm0 : -1 ≤ m) (hm1 : m ≤ 10000) (hb : ¬ validD y m d) (w : World) :
    Calls Tryz.prog 150 #[.agg #[.int .i64 y, .int .i64 m, .int .i64 d]] w fun e w' => e = .returned (.tuple #[.int .i64 0, .bool false]) ∧ Below w.heap.size w w' := by
  have D := Lib.hid (fun w => refDMay_any y m d h0 h1 hm0 hm1 false (by simp [hb]) w)
  clear hb
  go_enter Tryz.func150, Tryz.ntmps150
  go_wp2_with fail
  (with_reducible refine (D.out _).mono ?_)
  rintro e w1 ⟨rfl, hb1⟩
  go_wp2
  go_ret2
  exact ⟨rfl, below_call ((Below.refl _ _).alloc (Nat.le_refl _) _) hb1⟩
set_option maxHeartbeats 4000000 in
theorem refNum_yes (y m d : Int) (hb : validD y m d) (w : World) :
    Calls Tryz.prog 150 #[.agg #[.int .i64 y, .int .i64 m, .int .i64 d]] w fun e w' => e = .returned (.tuple #[.int .i64 (numD y m d), .bool true]) ∧ Below w.heap.size w w' := by
  have hm := valid_month y m d hb
  have hv := hb
  obtain ⟨v1, v2, v3, v4⟩ := hv
  obtain ⟨m1, m2⟩ := hm
  have hbd := (lenM_bd y m).2
  have D := Lib.hid (fun w => refDMay_any y m d (by omega) (by omega) (by omega) (by omega) true (by simp [hb]) w)
  clear hb
  go_enter Tryz.func150, Tryz.ntmps150
  go_wp2_with fail
  (with_reducible refine (D.out _).mono ?_)
  rintro e w1 ⟨rfl, hb1⟩
  have hc : w1.cell? ⟨w.heap.size, 0, none⟩ = some (.int .i64 y) ∧ w1.cell? ⟨w.heap.size, 1, none⟩ = some (.int .i64 m) ∧ w1.cell? ⟨w.heap.size, 2, none⟩ = some (.int .i64 d) := by
    refine ⟨?_, ?_, ?_⟩ <;> (rw [hb1.cell (by simp)]; simp [go_sem])
  obtain ⟨c1, c2, c3⟩ := hc
  have hz1 : w.heap.size < w1.heap.size := by have := hb1.size; simp at this; omega
  have hB1 : Below w.heap.size w w1 := below_call ((Below.refl _ _).alloc (Nat.le_refl _) _) hb1
  go_wp2
  go_loopw [4, 5] (fun a b wr => ∃ k : Int, 1 ≤ k ∧ k ≤ m ∧ a = .int .i64 (d - 1 + cumM y k) ∧ b = .int .i64 k ∧ wr.cell? ⟨w.heap.size, 0, none⟩ = some (.int .i64 y) ∧ wr.cell? ⟨w.heap.size, 1, none⟩ = some (.int .i64 m) ∧ w.heap.size < wr.heap.size ∧ Below w.heap.size w wr)
    (fun _ b _ => (m - intOf b).toNat)
  case atStart => exact ⟨1, by omega, m1, by rw [cumM_0]; congr 1; omega, rfl, c1, c2, hz1, hB1⟩
  case round =>
    obtain ⟨k, hk0, hk1, rfl, rfl, q1, q2, q3, hB⟩ := hrel
    have hcb := cumM_bd y k hk0 (by omega)
    obtain ⟨hcb0, hcb1⟩ := hcb
    by_cases hk : k < m
    · have hs := cumM_step y k hk0 (by omega)
      have Hs := Lib.hid hs
      have hlb := lenM_bd y k
      obtain ⟨hlb0, hlb1⟩ := hlb
      clear hs
      go_wp2_with fail
      (with_reducible refine (refLength_any y k ?_ ?_ ?_ ?_ _).mono ?_) <;> try omega
      rintro e w2 ⟨rfl, hbb⟩
      have r1 := (hbb.cell (by exact q3)).trans q1
      have r2 := (hbb.cell (by exact q3)).trans q2
      have r4 : w.heap.size < w2.heap.size := by have := hbb.size; omega
      have r5 := below_call hB hbb
      go_wp2
      go_roundw
      case rel => exact ⟨k + 1, by omega, by omega, by rw [Hs.out]; congr 1; omega, rfl, r1, r2, r4, r5⟩
      case measure => simp [intOf]; omega
    · obtain rfl : k = m := by omega
      have hn := numD_cum y k d
      have Hn := Lib.hid hn
      clear hn
      obtain ⟨wo, hwo⟩ : ∃ wo : World, wo = wr := ⟨_, rfl⟩
      subst hwo
      go_wp2
      go_loop [4, 6] (fun a b => ∃ x : Int, 1900 ≤ x ∧ x ≤ y ∧ a = .int .i64 (d - 1 + cumM y k + dby x) ∧ b = .int .i64 x)
        (fun _ b => (y - intOf b).toNat)
      case atStart => exact ⟨1900, by omega, v1, by rw [dby_0]; congr 1; omega, rfl⟩
      case round =>
        obtain ⟨x, hx0, hx1, rfl, rfl⟩ := hrel
        have hdb := dby_bd x hx0 (by omega)
        obtain ⟨hdb0, hdb1⟩ := hdb
        by_cases hx : x < y
        · have hs := dby_step x
          have hl := leapN_b x
          have DL := Lib.hid (fun w => refLeap_any x (by omega) (by omega) w)
          cases hlb : leapB x <;> rw [hlb] at hl DL <;> simp only [Bool.false_eq_true, if_false, if_true] at hl <;> rw [hl] at hs <;> have Hs := Lib.hid hs <;> clear hs hl hlb
          all_goals
            go_wp2_with (go_at_call 192; (with_reducible refine (DL.out _).mono ?_); rintro e w' ⟨rfl, rfl⟩)
            go_round
            case rel => exact ⟨x + 1, by omega, by omega, by rw [Hs.out]; congr 1; omega, rfl⟩
            case measure => simp [intOf]; omega
        · obtain rfl : x = y := by omega
          go_wp2
          go_ret2
          exact ⟨ret_ib (by rw [Hn.out]; omega), hB⟩
set_option maxHeartbeats 4000000 in
theorem refDate_yes (n : Int) (h0 : 0 ≤ n) (h1 : n < 109938) (w : World) :
    Calls Tryz.prog 149 #[.int .i64 n] w fun e w' => e = .returned (.tuple #[.agg #[.int .i64 (dateY n), .int .i64 (dateM n), .int .i64 (dD n)], .bool true]) ∧ Below w.heap.size w w' := by
  have h2 : ¬ n < 0 := by omega
  have h3 : ¬ 109937 < n := by omega
  have hend : dby 2201 = 109938 := by decide
  go_enter Tryz.func149, Tryz.ntmps149
  go_wp2
  go_loop [0, 4, 5] (fun a b c => ∃ x : Int, 1900 ≤ x ∧ x ≤ 2200 ∧ 0 ≤ n - dby x ∧ a = .int .i64 (n - dby x) ∧ b = .int .i64 x)
    (fun _ b _ => (2201 - intOf b).toNat)
  case atStart => exact ⟨1900, by omega, by omega, by rw [dby_0]; omega, by rw [dby_0]; congr 1; omega, rfl⟩
  case round =>
    obtain ⟨x, hx0, hx1, hx2, rfl, rfl⟩ := hrel
    have hs := dby_step x
    have hl := leapN_b x
    have hdb := dby_bd x hx0 (by omega)
    obtain ⟨hdb0, hdb1⟩ := hdb
    have DL := Lib.hid (fun w => refLeap_any x (by omega) (by omega) w)
    by_cases hk : n - dby x < 365 + leapN x
    · have hcy := cum_year x
      cases hlb : leapB x <;> rw [hlb] at hl DL <;> simp only [Bool.false_eq_true, if_false, if_true] at hl <;> rw [hl] at hk hcy <;> have Hcy := Lib.hid hcy <;> clear hs hl hlb hcy hend <;> simp only [Int.add_zero, Int.reduceAdd] at hk
      all_goals
        go_wp2_with (go_at_call 192; (with_reducible refine (DL.out _).mono ?_); rintro e w' ⟨rfl, rfl⟩)
        go_loopw [0, 6] (fun a b wr => ∃ m : Int, 1 ≤ m ∧ m ≤ 12 ∧ 0 ≤ n - dby x - cumM x m ∧ a = .int .i64 (n - dby x - cumM x m) ∧ b = .int .i64 m ∧ wr.heap[w.heap.size]? = some (.cells #[.int .i64 0, .int .i64 0, .int .i64 0] 131 (0, 0)) ∧ Below w.heap.size w wr)
          (fun _ b _ => (12 - intOf b).toNat)
        case atStart => exact ⟨1, by omega, by omega, by rw [cumM_0]; omega, by rw [cumM_0]; congr 1; omega, rfl, heap_alloc_new w _, (Below.refl _ _).alloc (Nat.le_refl _) _⟩
        case round =>
          obtain ⟨m, hm0, hm1, hm2, rfl, rfl, hheap, hB⟩ := hrel
          have hlm := lenM_bd x m
          obtain ⟨hlm0, hlm1⟩ := hlm
          have hzz : w.heap.size < wr.heap.size := by
            rcases Nat.lt_or_ge w.heap.size wr.heap.size with h | h
            · exact h
            · rw [Array.getElem?_eq_none h] at hheap; simp at hheap
          by_cases hc : n - dby x - cumM x m < lenM x m
          · have hv : validD x m (n - dby x - cumM x m + 1) := ⟨by omega, by omega, by omega, by omega⟩
            have hdv := date_valid n h0 h1
            have hnum : numD x m (n - dby x - cumM x m + 1) = n := by rw [numD_cum]; omega
            have hinj := numD_inj _ _ _ _ _ _ hv hdv.1 ⟨hm0, hm1⟩ hdv.2.2 (hnum.trans hdv.2.1.symm)
            have Hinj := Lib.hid hinj
            clear hv hdv hnum hinj
            go_wp2_with fail
            (with_reducible refine (refLength_any x m ?_ ?_ ?_ ?_ _).mono ?_) <;> try omega
            rintro e w2 ⟨rfl, hbb⟩
            have hh2 : w2.heap[w.heap.size]? = some (.cells #[.int .i64 0, .int .i64 0, .int .i64 0] 131 (0, 0)) := by rw [hbb.block _ hzz]; exact hheap
            have cs : ∀ i, i < 3 → w2.cell? ⟨w.heap.size, i, none⟩ = some (.int .i64 0) ∧ w2.frozen? ⟨w.heap.size, i, none⟩ = false := by
              intro i hi
              have : i = 0 ∨ i = 1 ∨ i = 2 := by omega
              rcases this with rfl | rfl | rfl <;> (constructor <;> simp [World.cell?, World.frozen?, hh2])
            obtain ⟨g0, f0⟩ := cs 0 (by omega)
            obtain ⟨g1, f1⟩ := cs 1 (by omega)
            obtain ⟨g2, f2⟩ := cs 2 (by omega)
            clear cs hh2 hheap
            go_wp2
            refine bodyPost_ret (v := .tuple #[.agg #[.int .i64 x, .int .i64 m, .int .i64 (n - dby x - cumM x m + 1)], .bool true]) ?_ rfl ⟨ret_date Hinj.out, ?_⟩
            · simp [results, Tryz.results149, go_sem, g0, g1, g2]
            · have := below_call hB hbb
              repeat (first | exact this | refine Below.setCell ?_ (by simp) _)
          · have hm12 : m ≠ 12 := by
              rintro rfl
              have := Hcy.out
              omega
            have hst := cumM_step x m hm0 (by omega)
            have Hst := Lib.hid hst
            have hcm := cumM_bd x m hm0 hm1
            have hq1 : 0 ≤ n - dby x - cumM x m - lenM x m := by omega
            have hq2 : n - dby x - cumM x m - lenM x m ≤ 366 := by omega
            clear hst hcm
            go_wp2_with fail
            (with_reducible refine (refLength_any x m ?_ ?_ ?_ ?_ _).mono ?_) <;> try omega
            rintro e w2 ⟨rfl, hbb⟩
            go_wp2_with fail
            (with_reducible refine (refLength_any x m ?_ ?_ ?_ ?_ _).mono ?_) <;> try omega
            rintro e w3 ⟨rfl, hbb3⟩
            have hh3 : w3.heap[w.heap.size]? = some (.cells #[.int .i64 0, .int .i64 0, .int .i64 0] 131 (0, 0)) := by
              rw [hbb3.block _ (by have := hbb.size; omega), hbb.block _ hzz]; exact hheap
            have Hh3 := Lib.hid hh3
            clear hh3 hheap
            go_wp2
            go_roundw
            case rel => exact ⟨m + 1, by omega, by omega, by rw [Hst.out]; omega, by rw [Hst.out]; congr 1; omega, rfl, Hh3.out, below_call (below_call hB hbb) hbb3⟩
            case measure => simp [intOf]; omega
    · have hlast : x ≠ 2200 := by
        rintro rfl
        rw [show (2200 : Int) + 1 = 2201 from rfl, hend] at hs
        omega
      cases hlb : leapB x <;> rw [hlb] at hl DL <;> simp only [Bool.false_eq_true, if_false, if_true] at hl <;> rw [hl] at hs hk <;> have Hs := Lib.hid hs <;> clear hs hl hlb
      all_goals
        go_wp2_with (go_at_call 192; (with_reducible refine (DL.out _).mono ?_); rintro e w' ⟨rfl, rfl⟩)
        go_round
        case rel => exact ⟨x + 1, by omega, by omega, by rw [Hs.out]; omega, by rw [Hs.out]; congr 1; omega, rfl⟩
        case measure => simp [intOf]; omega
end Go.Proofs.YtechgcjdigpglaaGreat
