/- The walk of the law ClockWeekdays: it answers true. Conditions: the table strings.asciiSpace holds what the program's text lays. -/
import Derived.Test.YtkbnjigoejalgaaDoorW7
namespace Go.Proofs.YtkbnjigoejalgaaDoor
open Go.RowKit Go.ChangeShapes Go.WideShapes Go.Deep

theorem refW' (n : Nat) (hn : n < 128) (w : World) : Calls Tryd.prog 6 #[.int .i64 (n : Nat)] w fun e w' => e = .returned (.string ⟨(textL n).toArray⟩) ∧ Below w.heap.size w w' := refW n hn w

set_option maxHeartbeats 8000000 in
theorem week_walk (a : Int) (t : ByteArray) (w : World) (hT : Tab w) : Calls Tryd.prog 3 #[.int .i64 a, .string t] w fun e w' => e = .returned (.bool true) ∧ Below w.heap.size w w' := by
  have h0 := hT.pos
  have HT := Lib.hid hT
  clear hT
  have CF := Lib.hid (fun (W : World) => fixed_any W)
  by_cases hs : 1000 < (t.size : Int)
  · have d1 := decide_eq_true hs
    go_enter Tryd.func3, Tryd.ntmps3
    go_wp2_with fail
    (with_reducible refine (CF.out _).mono ?_)
    rintro e w1 ⟨rfl, hb1⟩
    have HB1 := Lib.hid hb1
    clear hb1
    go_wp2_with fail
    go_ret
    exact ⟨rfl, HB1.out⟩
  · have d1 := decide_eq_false hs
    by_cases ha : a < 0 ∨ 127 < a
    · have CW := Lib.hid (weekdays_no a ha w)
      have hin : ¬ (0 ≤ a ∧ a < 128) := by omega
      by_cases h1 : 0 ≤ a
      · have e1 := decide_eq_true h1
        have h2 : ¬ a < 128 := by omega
        have e2 := decide_eq_false h2
        clear ha hin
        go_enter Tryd.func3, Tryd.ntmps3
        go_wp2_with fail
        (with_reducible refine CW.out.mono ?_)
        rintro e w1 ⟨rfl, hb1⟩
        have HB1 := Lib.hid hb1
        clear hb1
        go_wp2_with fail
        go_loopw [8, 47] (fun want i wr => ∃ k : Nat, k ≤ 128 ∧ i = .int .i64 (k : Nat) ∧ want = .int .i64 (wantTo t.data.toList k) ∧ Hid (Below w.heap.size w wr)) (fun _ i _ => 128 - (intOf i).toNat)
        case atStart => exact ⟨0, Nat.zero_le _, rfl, rfl, HB1.out⟩
        case round =>
          obtain ⟨k, hk, rfl, rfl, hbw⟩ := hrel
          have HBW := Lib.hid hbw.out
          clear hbw
          by_cases hlt : k < 128
          · have hlt' : (k : Int) < 128 := by omega
            have CR := Lib.hid (fun W => refW' k hlt W)
            by_cases he : textL k = t.data.toList
            · have b1 : (textL k == t.toList) = true := by rw [ByteArray.toList_eq, he]; simp
              have hw : wantTo t.data.toList (k + 1) = (k : Int) := by rw [wantTo, if_pos he]
              have HW := Lib.hid hw
              clear hw he
              go_wp2_with fail
              (with_reducible refine (CR.out _).mono ?_)
              rintro e w2 ⟨rfl, hb2⟩
              have HB2 := Lib.hid (below_call HBW.out hb2)
              clear hb2
              go_wp2_with fail
              go_roundw
              case measure => simp [intOf]; omega
              case rel => exact ⟨k + 1, by omega, rfl, by rw [HW.out], HB2.out⟩
            · have b1 : (textL k == t.toList) = false := by rw [ByteArray.toList_eq, beq_eq_false_iff_ne]; exact he
              have hw : wantTo t.data.toList (k + 1) = wantTo t.data.toList k := by rw [wantTo, if_neg he]
              have HW := Lib.hid hw
              clear hw he
              go_wp2_with fail
              (with_reducible refine (CR.out _).mono ?_)
              rintro e w2 ⟨rfl, hb2⟩
              have HB2 := Lib.hid (below_call HBW.out hb2)
              clear hb2
              go_wp2_with fail
              go_roundw
              case measure => simp [intOf]; omega
              case rel => exact ⟨k + 1, by omega, rfl, by rw [HW.out], HB2.out⟩
          · obtain rfl : k = 128 := by omega
            rcases want_read t.data.toList with ⟨h1, h2⟩ | ⟨h1, h2⟩
            · have RW := Lib.hid (read_any t (by omega) wr (HT.out.later' h0 HBW.out) _ rfl true (by rw [h1]; simp))
              generalize hm : rdS (splitc t.data.toList) 7 = m at h2 RW
              rw [h2]
              have hmi : (0 : Int) ≤ (m : Int) := by omega
              clear h1 h2 hm
              go_wp2_with fail
              (with_reducible refine RW.out.mono ?_)
              rintro e w2 ⟨rfl, hb2⟩
              have HB2 := Lib.hid (below_call HBW.out hb2)
              clear hb2
              go_wp2_with fail
              (with_reducible refine (CF.out _).mono ?_)
              rintro e w3 ⟨rfl, hb3⟩
              have HB3 := Lib.hid (below_call HB2.out hb3)
              clear hb3
              go_wp2_with fail
              go_ret
              exact ⟨rfl, HB3.out⟩
            · have RW := Lib.hid (read_any t (by omega) wr (HT.out.later' h0 HBW.out) _ rfl false (by rw [eq_comm, beq_eq_false_iff_ne]; exact h1))
              rw [h2]
              clear h1 h2
              go_wp2_with fail
              (with_reducible refine RW.out.mono ?_)
              rintro e w2 ⟨rfl, hb2⟩
              have HB2 := Lib.hid (below_call HBW.out hb2)
              clear hb2
              go_wp2_with fail
              (with_reducible refine (CF.out _).mono ?_)
              rintro e w3 ⟨rfl, hb3⟩
              have HB3 := Lib.hid (below_call HB2.out hb3)
              clear hb3
              go_wp2_with fail
              go_ret
              exact ⟨rfl, HB3.out⟩
      · have e1 := decide_eq_false h1
        clear ha hin
        go_enter Tryd.func3, Tryd.ntmps3
        go_wp2_with fail
        (with_reducible refine CW.out.mono ?_)
        rintro e w1 ⟨rfl, hb1⟩
        have HB1 := Lib.hid hb1
        clear hb1
        go_wp2_with fail
        go_loopw [8, 47] (fun want i wr => ∃ k : Nat, k ≤ 128 ∧ i = .int .i64 (k : Nat) ∧ want = .int .i64 (wantTo t.data.toList k) ∧ Hid (Below w.heap.size w wr)) (fun _ i _ => 128 - (intOf i).toNat)
        case atStart => exact ⟨0, Nat.zero_le _, rfl, rfl, HB1.out⟩
        case round =>
          obtain ⟨k, hk, rfl, rfl, hbw⟩ := hrel
          have HBW := Lib.hid hbw.out
          clear hbw
          by_cases hlt : k < 128
          · have hlt' : (k : Int) < 128 := by omega
            have CR := Lib.hid (fun W => refW' k hlt W)
            by_cases he : textL k = t.data.toList
            · have b1 : (textL k == t.toList) = true := by rw [ByteArray.toList_eq, he]; simp
              have hw : wantTo t.data.toList (k + 1) = (k : Int) := by rw [wantTo, if_pos he]
              have HW := Lib.hid hw
              clear hw he
              go_wp2_with fail
              (with_reducible refine (CR.out _).mono ?_)
              rintro e w2 ⟨rfl, hb2⟩
              have HB2 := Lib.hid (below_call HBW.out hb2)
              clear hb2
              go_wp2_with fail
              go_roundw
              case measure => simp [intOf]; omega
              case rel => exact ⟨k + 1, by omega, rfl, by rw [HW.out], HB2.out⟩
            · have b1 : (textL k == t.toList) = false := by rw [ByteArray.toList_eq, beq_eq_false_iff_ne]; exact he
              have hw : wantTo t.data.toList (k + 1) = wantTo t.data.toList k := by rw [wantTo, if_neg he]
              have HW := Lib.hid hw
              clear hw he
              go_wp2_with fail
              (with_reducible refine (CR.out _).mono ?_)
              rintro e w2 ⟨rfl, hb2⟩
              have HB2 := Lib.hid (below_call HBW.out hb2)
              clear hb2
              go_wp2_with fail
              go_roundw
              case measure => simp [intOf]; omega
              case rel => exact ⟨k + 1, by omega, rfl, by rw [HW.out], HB2.out⟩
          · obtain rfl : k = 128 := by omega
            rcases want_read t.data.toList with ⟨h1, h2⟩ | ⟨h1, h2⟩
            · have RW := Lib.hid (read_any t (by omega) wr (HT.out.later' h0 HBW.out) _ rfl true (by rw [h1]; simp))
              generalize hm : rdS (splitc t.data.toList) 7 = m at h2 RW
              rw [h2]
              have hmi : (0 : Int) ≤ (m : Int) := by omega
              clear h1 h2 hm
              go_wp2_with fail
              (with_reducible refine RW.out.mono ?_)
              rintro e w2 ⟨rfl, hb2⟩
              have HB2 := Lib.hid (below_call HBW.out hb2)
              clear hb2
              go_wp2_with fail
              (with_reducible refine (CF.out _).mono ?_)
              rintro e w3 ⟨rfl, hb3⟩
              have HB3 := Lib.hid (below_call HB2.out hb3)
              clear hb3
              go_wp2_with fail
              go_ret
              exact ⟨rfl, HB3.out⟩
            · have RW := Lib.hid (read_any t (by omega) wr (HT.out.later' h0 HBW.out) _ rfl false (by rw [eq_comm, beq_eq_false_iff_ne]; exact h1))
              rw [h2]
              clear h1 h2
              go_wp2_with fail
              (with_reducible refine RW.out.mono ?_)
              rintro e w2 ⟨rfl, hb2⟩
              have HB2 := Lib.hid (below_call HBW.out hb2)
              clear hb2
              go_wp2_with fail
              (with_reducible refine (CF.out _).mono ?_)
              rintro e w3 ⟨rfl, hb3⟩
              have HB3 := Lib.hid (below_call HB2.out hb3)
              clear hb3
              go_wp2_with fail
              go_ret
              exact ⟨rfl, HB3.out⟩
    · obtain ⟨n, rfl⟩ : ∃ n : Nat, a = (n : Int) := ⟨a.toNat, by omega⟩
      have hn : n < 128 := by omega
      have h1 : (0 : Int) ≤ (n : Int) := by omega
      have h2 : (n : Int) < 128 := by omega
      have e1 := decide_eq_true h1
      have e2 := decide_eq_true h2
      have CW := Lib.hid (weekdays_yes n hn w HT.out (textL n) rfl)
      have CN := Lib.hid (fun W => refW' n hn W)
      clear ha
      go_enter Tryd.func3, Tryd.ntmps3
      go_wp2_with fail
      (with_reducible refine CW.out.mono ?_)
      rintro e w0 ⟨rfl, hb0⟩
      have HB0 := Lib.hid hb0
      clear hb0
      go_wp2_with fail
      (with_reducible refine (CN.out _).mono ?_)
      rintro e w1 ⟨rfl, hb1⟩
      have HB1 := Lib.hid (below_call HB0.out hb1)
      clear hb1
      go_wp2_with fail
      go_loopw [8, 47] (fun want i wr => ∃ k : Nat, k ≤ 128 ∧ i = .int .i64 (k : Nat) ∧ want = .int .i64 (wantTo t.data.toList k) ∧ Hid (Below w.heap.size w wr)) (fun _ i _ => 128 - (intOf i).toNat)
      case atStart => exact ⟨0, Nat.zero_le _, rfl, rfl, HB1.out⟩
      case round =>
        obtain ⟨k, hk, rfl, rfl, hbw⟩ := hrel
        have HBW := Lib.hid hbw.out
        clear hbw
        by_cases hlt : k < 128
        · have hlt' : (k : Int) < 128 := by omega
          have CR := Lib.hid (fun W => refW' k hlt W)
          by_cases he : textL k = t.data.toList
          · have b1 : (textL k == t.toList) = true := by rw [ByteArray.toList_eq, he]; simp
            have hw : wantTo t.data.toList (k + 1) = (k : Int) := by rw [wantTo, if_pos he]
            have HW := Lib.hid hw
            clear hw he
            go_wp2_with fail
            (with_reducible refine (CR.out _).mono ?_)
            rintro e w2 ⟨rfl, hb2⟩
            have HB2 := Lib.hid (below_call HBW.out hb2)
            clear hb2
            go_wp2_with fail
            go_roundw
            case measure => simp [intOf]; omega
            case rel => exact ⟨k + 1, by omega, rfl, by rw [HW.out], HB2.out⟩
          · have b1 : (textL k == t.toList) = false := by rw [ByteArray.toList_eq, beq_eq_false_iff_ne]; exact he
            have hw : wantTo t.data.toList (k + 1) = wantTo t.data.toList k := by rw [wantTo, if_neg he]
            have HW := Lib.hid hw
            clear hw he
            go_wp2_with fail
            (with_reducible refine (CR.out _).mono ?_)
            rintro e w2 ⟨rfl, hb2⟩
            have HB2 := Lib.hid (below_call HBW.out hb2)
            clear hb2
            go_wp2_with fail
            go_roundw
            case measure => simp [intOf]; omega
            case rel => exact ⟨k + 1, by omega, rfl, by rw [HW.out], HB2.out⟩
        · obtain rfl : k = 128 := by omega
          rcases want_read t.data.toList with ⟨h1, h2⟩ | ⟨h1, h2⟩
          · have RW := Lib.hid (read_any t (by omega) wr (HT.out.later' h0 HBW.out) _ rfl true (by rw [h1]; simp))
            generalize hm : rdS (splitc t.data.toList) 7 = m at h2 RW
            rw [h2]
            have hmi : (0 : Int) ≤ (m : Int) := by omega
            clear h1 h2 hm
            go_wp2_with fail
            (with_reducible refine RW.out.mono ?_)
            rintro e w2 ⟨rfl, hb2⟩
            have HB2 := Lib.hid (below_call HBW.out hb2)
            clear hb2
            go_wp2_with fail
            (with_reducible refine (CF.out _).mono ?_)
            rintro e w3 ⟨rfl, hb3⟩
            have HB3 := Lib.hid (below_call HB2.out hb3)
            clear hb3
            go_wp2_with fail
            go_ret
            exact ⟨rfl, HB3.out⟩
          · have RW := Lib.hid (read_any t (by omega) wr (HT.out.later' h0 HBW.out) _ rfl false (by rw [eq_comm, beq_eq_false_iff_ne]; exact h1))
            rw [h2]
            clear h1 h2
            go_wp2_with fail
            (with_reducible refine RW.out.mono ?_)
            rintro e w2 ⟨rfl, hb2⟩
            have HB2 := Lib.hid (below_call HBW.out hb2)
            clear hb2
            go_wp2_with fail
            (with_reducible refine (CF.out _).mono ?_)
            rintro e w3 ⟨rfl, hb3⟩
            have HB3 := Lib.hid (below_call HB2.out hb3)
            clear hb3
            go_wp2_with fail
            go_ret
            exact ⟨rfl, HB3.out⟩
end Go.Proofs.YtkbnjigoejalgaaDoor
