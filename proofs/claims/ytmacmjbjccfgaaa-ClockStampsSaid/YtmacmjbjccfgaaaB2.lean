/- The walk of the law ClockStamps. Conditions: none. -/
import Derived.Test.YtmacmjbjccfgaaaC8
namespace Go.Proofs.Ytmacmjbjccfgaaa
open Go.RowKit

set_option maxHeartbeats 4000000 in
theorem stamps_walk (n : Int) (t : ByteArray) (w : World) (_ : (Lit.int .i64 n).wf = true) (_ : t.size ≤ 140737488351232) :
    Calls Try.prog 7 #[.int .i64 n, .string t] w fun e w' => e = .returned (.bool true) ∧ Below w.heap.size w w' := by
  by_cases hl : 1000 < t.size
  · go_enter Try.func7, Try.ntmps7
    go_wp2_with fail
    refine (fixed_any _).mono ?_
    rintro e w1 ⟨rfl, hb1⟩
    go_wp2_with fail
    go_ret
    exact ⟨rfl, hb1⟩
  obtain ⟨r, hr⟩ := refStamp_ex t
  have hF := rsF_ref t r hr
  have D1 := Lib.hid (fun w => refReadStamp_any t r hr w)
  have D2 := Lib.hid (fun w => readStamp_any t w)
  have hrange : 0 ≤ r ∧ r ≤ 158310720 ∨ r = -1 := by
    rcases hr with h | h
    · exact .inl ⟨h.1, h.2.1⟩
    · exact .inr h.1
  by_cases hn : 0 ≤ n ∧ n ≤ 158310720
  · obtain ⟨x, hx⟩ : ∃ x, x = strOfNums (stampText n) := ⟨_, rfl⟩
    have D3 := Lib.hid (fun w => stamp_yes n hn.1 hn.2 w)
    have D4 := Lib.hid (fun w => refStamp_any n hn.1 hn.2 w)
    have D5 := Lib.hid (fun w => readStamp_any x w)
    have h5 := rsF_text n hn.1 hn.2
    rw [← hx] at D3 D4 h5
    rw [h5] at D5
    obtain ⟨hn0, hn1⟩ := hn
    clear hx h5
    rcases hrange with ⟨r0, r1⟩ | hm
    · rw [hF, if_pos r0] at D2
      clear hF hr
      go_enter Try.func7, Try.ntmps7
      go_wp2_with fail
      (with_reducible refine (D3.out _).mono ?_)
      rintro e w1 ⟨rfl, hb1⟩
      go_wp2_with fail
      (with_reducible refine (D4.out _).mono ?_)
      rintro e w2 ⟨rfl, hb2⟩
      go_wp2_with fail
      (with_reducible refine (D2.out _).mono ?_)
      rintro e w3 ⟨rfl, hb3⟩
      go_wp2_with fail
      (with_reducible refine (D1.out _).mono ?_)
      rintro e w4 ⟨rfl, hb4⟩
      go_wp2_with fail
      (with_reducible refine (D5.out _).mono ?_)
      rintro e w5 ⟨rfl, hb5⟩
      go_wp2_with fail
      (with_reducible refine (fixed_any _).mono ?_)
      rintro e w6 ⟨rfl, hb6⟩
      go_wp2_with fail
      go_ret
      have b2 := below_call hb1 hb2
      have b3 := below_call b2 hb3
      have b4 := below_call b3 hb4
      have b5 := below_call b4 hb5
      have b6 := below_call b5 hb6
      exact ⟨rfl, b6⟩
    · subst hm
      rw [hF, if_neg (by omega)] at D2
      clear hF hr
      go_enter Try.func7, Try.ntmps7
      go_wp2_with fail
      (with_reducible refine (D3.out _).mono ?_)
      rintro e w1 ⟨rfl, hb1⟩
      go_wp2_with fail
      (with_reducible refine (D4.out _).mono ?_)
      rintro e w2 ⟨rfl, hb2⟩
      go_wp2_with fail
      (with_reducible refine (D2.out _).mono ?_)
      rintro e w3 ⟨rfl, hb3⟩
      go_wp2_with fail
      (with_reducible refine (D1.out _).mono ?_)
      rintro e w4 ⟨rfl, hb4⟩
      go_wp2_with fail
      (with_reducible refine (D5.out _).mono ?_)
      rintro e w5 ⟨rfl, hb5⟩
      go_wp2_with fail
      (with_reducible refine (fixed_any _).mono ?_)
      rintro e w6 ⟨rfl, hb6⟩
      go_wp2_with fail
      go_ret
      have b2 := below_call hb1 hb2
      have b3 := below_call b2 hb3
      have b4 := below_call b3 hb4
      have b5 := below_call b4 hb5
      have b6 := below_call b5 hb6
      exact ⟨rfl, b6⟩
  · have D3 := Lib.hid (fun w => stamp_no n (by omega) w)
    have hg : (0 ≤ n ∧ 158310720 < n) ∨ n < 0 := by omega
    rcases hrange with ⟨r0, r1⟩ | hm
    · rw [hF, if_pos r0] at D2
      clear hF hr hn
      rcases hg with ⟨g1, g2⟩ | g1
      all_goals
        go_enter Try.func7, Try.ntmps7
        go_wp2_with fail
        (with_reducible refine (D3.out _).mono ?_)
        rintro e w1 ⟨rfl, hb1⟩
        go_wp2_with fail
        (with_reducible refine (D2.out _).mono ?_)
        rintro e w2 ⟨rfl, hb2⟩
        go_wp2_with fail
        (with_reducible refine (D1.out _).mono ?_)
        rintro e w3 ⟨rfl, hb3⟩
        go_wp2_with fail
        (with_reducible refine (fixed_any _).mono ?_)
        rintro e w4 ⟨rfl, hb4⟩
        go_wp2_with fail
        go_ret
        have b2 := below_call hb1 hb2
        have b3 := below_call b2 hb3
        have b4 := below_call b3 hb4
        exact ⟨rfl, b4⟩
    · subst hm
      rw [hF, if_neg (by omega)] at D2
      clear hF hr hn
      rcases hg with ⟨g1, g2⟩ | g1
      all_goals
        go_enter Try.func7, Try.ntmps7
        go_wp2_with fail
        (with_reducible refine (D3.out _).mono ?_)
        rintro e w1 ⟨rfl, hb1⟩
        go_wp2_with fail
        (with_reducible refine (D2.out _).mono ?_)
        rintro e w2 ⟨rfl, hb2⟩
        go_wp2_with fail
        (with_reducible refine (D1.out _).mono ?_)
        rintro e w3 ⟨rfl, hb3⟩
        go_wp2_with fail
        (with_reducible refine (fixed_any _).mono ?_)
        rintro e w4 ⟨rfl, hb4⟩
        go_wp2_with fail
        go_ret
        have b2 := below_call hb1 hb2
        have b3 := below_call b2 hb3
        have b4 := below_call b3 hb4
        exact ⟨rfl, b4⟩
end Go.Proofs.Ytmacmjbjccfgaaa
