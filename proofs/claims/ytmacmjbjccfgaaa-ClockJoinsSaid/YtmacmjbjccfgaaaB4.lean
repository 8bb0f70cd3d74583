/- The walk of the law ClockJoins. Conditions: none. -/
import Derived.Test.YtmacmjbjccfgaaaD7
namespace Go.Proofs.Ytmacmjbjccfgaaa
open Go.RowKit

set_option maxHeartbeats 8000000 in
theorem joins_walk (a b : ByteArray) (w : World) (_ : a.size ≤ 140737488351232) (_ : b.size ≤ 140737488351232) :
    Calls Try.prog 6 #[.string a, .string b] w fun e w' => e = .returned (.bool true) ∧ Below w.heap.size w w' := by
  by_cases hla : 1000 < a.size
  · go_enter Try.func6, Try.ntmps6
    go_wp2_with fail
    (with_reducible refine (fixed_any _).mono ?_); rintro e w1 ⟨rfl, hb1⟩
    go_wp2_with fail
    go_ret
    exact ⟨rfl, hb1⟩
  · by_cases hlb : 1000 < b.size
    · go_enter Try.func6, Try.ntmps6
      go_wp2_with fail
      (with_reducible refine (fixed_any _).mono ?_); rintro e w1 ⟨rfl, hb1⟩
      go_wp2_with fail
      go_ret
      exact ⟨rfl, hb1⟩
    · have D1 := Lib.hid (fun w => refLabel_any a (by omega) w)
      have D2 := Lib.hid (fun w => refLabel_any b (by omega) w)
      cases ha : labB a with
      | false =>
        rw [ha] at D1
        clear ha
        go_enter Try.func6, Try.ntmps6
        go_wp2_with fail
        (with_reducible refine (D1.out _).mono ?_); rintro e w1 ⟨rfl, hb1⟩
        go_wp2_with fail
        (with_reducible refine (fixed_any _).mono ?_); rintro e w2 ⟨rfl, hb2⟩
        have b2 := below_call hb1 hb2
        go_wp2_with fail
        go_ret
        exact ⟨rfl, b2⟩
      | true =>
        cases hb : labB b with
        | false =>
          rw [ha] at D1
          rw [hb] at D2
          clear ha hb
          go_enter Try.func6, Try.ntmps6
          go_wp2_with fail
          (with_reducible refine (D1.out _).mono ?_); rintro e w1 ⟨rfl, hb1⟩
          go_wp2_with fail
          (with_reducible refine (D2.out _).mono ?_); rintro e w2 ⟨rfl, hb2⟩
          have b2 := below_call hb1 hb2
          go_wp2_with fail
          (with_reducible refine (fixed_any _).mono ?_); rintro e w3 ⟨rfl, hb3⟩
          have b3 := below_call b2 hb3
          go_wp2_with fail
          go_ret
          exact ⟨rfl, b3⟩
        | true =>
          have hlen := joins_len a b ha
          have hlab := joins_lab a b ha hb
          have hend := joins_end a ha
          have hbeg := joins_begin a
          have pa := labB_parts a ha
          have pb := labB_parts b hb
          obtain ⟨n, hn⟩ : ∃ n, n = (LL a).length := ⟨_, rfl⟩
          obtain ⟨m, hm⟩ : ∃ n, n = (LL b).length := ⟨_, rfl⟩
          have hsp : (⟨#[32]⟩ : ByteArray) = sp := rfl
          have hs1 : sp.size = 1 := rfl
          have q1 := app_size a sp
          have q2 := app_size (a ++ sp) b
          have q3 := app_size sp a
          have D3 := Lib.hid (fun w => width_any a (by omega) w)
          have D4 := Lib.hid (fun w => width_any b (by omega) w)
          have D5 := Lib.hid (fun w => width_any (a ++ sp ++ b) (by omega) w)
          have D6 := Lib.hid (fun w => label_any (a ++ sp ++ b) (by omega) w)
          have D7 := Lib.hid (fun w => label_any (a ++ sp) (by omega) w)
          have D8 := Lib.hid (fun w => label_any (sp ++ a) (by omega) w)
          rw [ha] at D1
          rw [hb] at D2
          rw [← hn] at D3 hlen hlab
          rw [← hm] at D4 hlen hlab
          rw [hlen] at D5
          rw [hlab] at D6
          rw [hend] at D7
          rw [hbeg] at D8
          unfold sp at D5 D6 D7 D8
          have hnb : n ≤ 24 := by rw [hn]; exact pa.2.2.1
          have hmb : m ≤ 24 := by rw [hm]; exact pb.2.2.1
          have hcast : ((n + m + 1 : Nat) : Int) = (n : Int) + (m : Int) + 1 := by omega
          rw [hcast] at D5
          have hd : decide (n + m + 1 ≤ 24) = decide ((n : Int) + (m : Int) + 1 ≤ 24) := by rw [decide_eq_decide]; omega
          rw [hd] at D6
          have f1 : ((n : Int) + (m : Int) + 1 == (n : Int) + (m : Int) + 1) = true := by simp
          clear ha hb hlen hlab hend hbeg pa pb hn hm hsp hs1 q1 q2 q3 hcast hd
          go_enter Try.func6, Try.ntmps6
          go_wp2_with fail
          (with_reducible refine (D1.out _).mono ?_); rintro e w1 ⟨rfl, hb1⟩
          go_wp2_with fail
          (with_reducible refine (D2.out _).mono ?_); rintro e w2 ⟨rfl, hb2⟩
          have b2 := below_call hb1 hb2
          go_wp2_with fail
          (with_reducible refine (D3.out _).mono ?_); rintro e w3 ⟨rfl, hb3⟩
          have b3 := below_call b2 hb3
          go_wp2_with fail
          (with_reducible refine (D4.out _).mono ?_); rintro e w4 ⟨rfl, hb4⟩
          have b4 := below_call b3 hb4
          go_wp2_with fail
          (with_reducible refine (fixed_any _).mono ?_); rintro e w5 ⟨rfl, hb5⟩
          have b5 := below_call b4 hb5
          go_wp2_with fail
          (with_reducible refine (D5.out _).mono ?_); rintro e w6 ⟨rfl, hb6⟩
          have b6 := below_call b5 hb6
          go_wp2_with fail
          (with_reducible refine (D6.out _).mono ?_); rintro e w7 ⟨rfl, hb7⟩
          have b7 := below_call b6 hb7
          go_wp2_with fail
          (with_reducible refine (D7.out _).mono ?_); rintro e w8 ⟨rfl, hb8⟩
          have b8 := below_call b7 hb8
          go_wp2_with fail
          (with_reducible refine (D8.out _).mono ?_); rintro e w9 ⟨rfl, hb9⟩
          have b9 := below_call b8 hb9
          go_wp2_with fail
          go_ret
          exact ⟨rfl, b9⟩
end Go.Proofs.Ytmacmjbjccfgaaa
