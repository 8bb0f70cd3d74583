/- The walk of the law ClockWeekdays: it answers true. Conditions: the table strings.asciiSpace holds what the program's text lays. -/
import Derived.Test.YtkbnjigoejalgaaDoorW6
namespace Go.Proofs.YtkbnjigoejalgaaDoor
open Go.RowKit Go.ChangeShapes Go.WideShapes Go.Deep

/-- Weekdays at what is no set. -/
theorem weekdays_no (n : Int) (h : n < 0 ∨ 127 < n) (w : World) : Calls Tryd.prog 5 #[.int .i64 n] w fun e w' => e = .returned (.tuple #[.string ⟨#[]⟩, .bool false]) ∧ Below w.heap.size w w' := by
  by_cases h1 : n < 0
  · have d1 := decide_eq_true h1
    go_enter Tryd.func5, Tryd.ntmps5
    go_wp2_with fail
    go_ret2
    exact ⟨rfl, Below.refl _ _⟩
  · have d1 := decide_eq_false h1
    have h2 : 127 < n := by omega
    have d2 := decide_eq_true h2
    go_enter Tryd.func5, Tryd.ntmps5
    go_wp2_with fail
    go_ret2
    exact ⟨rfl, Below.refl _ _⟩

/-- The last set, of the first ones, whose text it is. -/
def wantTo (t : List UInt8) : Nat → Int
  | 0 => -1
  | k + 1 => if textL k = t then (k : Int) else wantTo t k
theorem textL_inj {a b : Nat} (ha : a < 128) (hb : b < 128) (h : textL a = textL b) : a = b := by rw [← rd_back a ha, h, rd_back b hb]
theorem want_hit {t : List UInt8} {m : Nat} (hm : m < 128) (h : textL m = t) : ∀ k, k ≤ 128 → m < k → wantTo t k = (m : Int)
  | 0, _, h2 => by omega
  | k + 1, h1, h2 => by
    rw [wantTo]
    by_cases he : textL k = t
    · rw [if_pos he]
      have := textL_inj (show k < 128 by omega) hm (he.trans h.symm)
      omega
    · rw [if_neg he]
      have hne : m ≠ k := fun e => he (e ▸ h)
      exact want_hit hm h k (by omega) (by omega)
theorem want_miss {t : List UInt8} (h : ∀ k, k < 128 → textL k ≠ t) : ∀ k, k ≤ 128 → wantTo t k = -1
  | 0, _ => rfl
  | k + 1, h1 => by rw [wantTo, if_neg (h k (by omega)), want_miss h k (by omega)]
theorem want_read (t : List UInt8) : (textL (rdS (splitc t) 7) = t ∧ wantTo t 128 = (rdS (splitc t) 7 : Nat)) ∨ (textL (rdS (splitc t) 7) ≠ t ∧ wantTo t 128 = -1) := by
  have hm : rdS (splitc t) 7 < 128 := rdS_lt _ 7 (Nat.le_refl _)
  by_cases h : textL (rdS (splitc t) 7) = t
  · exact .inl ⟨h, want_hit hm h 128 (Nat.le_refl _) hm⟩
  · refine .inr ⟨h, want_miss (fun k hk e => h ?_) 128 (Nat.le_refl _)⟩
    rw [← e, rd_back k hk]

theorem read_any (s : ByteArray) (hs : s.size ≤ 1000) (w : World) (hT : Tab w) (m : Nat) (hmr : m = rdS (splitc s.data.toList) 7) (b : Bool) (hb : b = (textL m == s.data.toList)) :
    Calls Tryd.prog 7 #[.string s] w fun e w' => e = .returned (.tuple #[.int .i64 ((if b then m else 0 : Nat) : Int), .bool b]) ∧ Below w.heap.size w w' := callsIn_wide.1 (readWeekdays_in s hs w hT m hmr b hb)
end Go.Proofs.YtkbnjigoejalgaaDoor
