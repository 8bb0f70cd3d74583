/- The walk of the law ClockLabels. Conditions: none. -/
import Derived.Test.YtmacmjbjccfgaaaD6
namespace Go.Proofs.Ytmacmjbjccfgaaa
open Go.RowKit

set_option maxHeartbeats 4000000 in
theorem labels_walk (t : ByteArray) (w : World) (_ : t.size ≤ 140737488351232) :
    Calls Try.prog 5 #[.string t] w fun e w' => e = .returned (.bool true) ∧ Below w.heap.size w w' := by
  by_cases hl : 1000 < t.size
  · go_enter Try.func5, Try.ntmps5
    go_wp2_with fail
    refine (fixed_any _).mono ?_
    rintro e w1 ⟨rfl, hb1⟩
    go_wp2_with fail
    go_ret
    exact ⟨rfl, hb1⟩
  · have D1 := Lib.hid (fun w => label_any t (by omega) w)
    have D2 := Lib.hid (fun w => refLabel_any t (by omega) w)
    have D3 := Lib.hid (fun w => width_any t (by omega) w)
    have D4 := Lib.hid (fun w => L_any t (by omega) w)
    generalize labB t = b at *
    generalize LL t = l at *
    have hbb : (b == b) = true := by simp
    have hll : ((l.length : Int) == (l.length : Int)) = true := by simp
    go_enter Try.func5, Try.ntmps5
    go_wp2_with fail
    (with_reducible refine (fixed_any _).mono ?_); rintro e w1 ⟨rfl, hb1⟩
    go_wp2_with fail
    (with_reducible refine (D1.out _).mono ?_); rintro e w2 ⟨rfl, hb2⟩
    go_wp2_with fail
    (with_reducible refine (D2.out _).mono ?_); rintro e w3 ⟨rfl, hb3⟩
    go_wp2_with fail
    (with_reducible refine (D3.out _).mono ?_); rintro e w4 ⟨rfl, hb4⟩
    go_wp2_with fail
    (with_reducible refine (D4.out _).mono ?_); rintro e w5 ⟨v, rfl, ⟨_, hv⟩, hb5⟩
    have b2 := below_call hb1 hb2
    have b3 := below_call b2 hb3
    have b4 := below_call b3 hb4
    have b5 := below_call b4 hb5
    rcases hv with ⟨rfl, hn⟩ | ⟨g, cap, cur, rfl, _⟩
    · have Hn := Lib.hid hn
      have h0 : ((l.length : Int) == 0) = true := by simp [hn]
      clear hn
      go_wp2
      go_ret
      exact ⟨rfl, b5⟩
    · go_wp2
      go_ret
      exact ⟨rfl, b5⟩
end Go.Proofs.Ytmacmjbjccfgaaa
