/- rule.row: numbers that rise, from 1 on, or below 0, up to a most. Condition: at most a thousand numbers. -/
import Derived.Test.YtcleicjgeflbnaaGreatDoorR1
namespace Go.Proofs.YtcleicjgeflbnaaGreatDoor
open Go.RowKit Go.ChangeShapes Go.WideShapes Go.Deep
set_option linter.all false

def rowOne (most : Nat) (below : Bool) (x : Int) : Prop := x ≠ 0 ∧ x ≤ (most : Int) ∧ -(most : Int) ≤ x ∧ (0 ≤ x ∨ below = true)
def rowMay (most : Nat) (below : Bool) (xs : List Int) : Prop := (∀ x ∈ xs, rowOne most below x) ∧ rises xs

set_option maxHeartbeats 4000000 in
set_option maxRecDepth 100000 in
theorem row_any (o : Option Addr) (n c : Nat) (xs : List Int) (most : Nat) (below : Bool) (w : World) (h : Row w 1 (rI .i64) (.slice o n c) xs) (hn : n ≤ 10000) (hm : most ≤ 10000) :
    Calls Tryz.prog 33 #[.slice o n c, .int .i64 (most : Nat), .bool below] w fun e w' => e = .returned (.bool (dec (rowMay most below xs))) ∧ Below w.heap.size w w' := by
  have S := Lib.hid h
  have L := Lib.hid h.len
  have C := Lib.hid (fun W hb => risesI o n c xs W (h.later' (w' := W) hb) hn)
  clear h
  have hneg : wrap64 (-(most : Int)) = -(most : Int) := by unfold wrap64; omega
  have hneg2 : (IntKind.i64).wrap (-(most : Int)) = -(most : Int) := by rw [IntKind.wrap_i64]; omega
  go_enter Tryz.func33, Tryz.ntmps33
  go_wp2_with fail
  go_loopw [11] (fun b wr => ∃ k : Nat, k ≤ n ∧ b = .int .i64 (k : Nat) ∧ wr = w ∧ Hid (∀ (i : Nat) x, i < k → xs[i]? = some x → rowOne most below x)) (fun b _ => n - (intOf b).toNat)
  case atStart => exact ⟨0, Nat.zero_le _, rfl, rfl, fun i x h => absurd h (Nat.not_lt_zero _)⟩
  case round =>
    obtain ⟨k, hk, rfl, rfl, I⟩ := hrel
    by_cases hlt : k < n
    · have hlt' : (k : Int) < (n : Int) := by omega
      obtain ⟨x, a1, cs1, hx, rfl, q1, ⟨rfl, _⟩, q0, _⟩ := S.out.elem (Below.refl _ _) k hlt
      have e0 := q0 (by decide)
      simp only [List.getElem?_cons_zero, Nat.mul_one] at e0
      have HX := Lib.hid hx
      clear q0 q1 hx
      by_cases h1 : x = 0
      · have b1 : (x == 0) = true := by simpa using h1
        have hno := Lib.hid (show ¬ rowMay most below xs from fun h => (h.1 x (List.mem_of_getElem? HX.out)).1 h1)
        clear h1
        go_wp2_with fail
        go_ret
        exact ⟨ret_f hno.out, Below.refl _ _⟩
      · have b1 : (x == 0) = false := by simpa using h1
        by_cases h2 : (most : Int) < x
        · have d2 := decide_eq_true h2
          have hno := Lib.hid (show ¬ rowMay most below xs from fun h => by have := (h.1 x (List.mem_of_getElem? HX.out)).2.1; omega)
          clear h1 h2
          go_wp2_with fail
          go_ret
          exact ⟨ret_f hno.out, Below.refl _ _⟩
        · have d2 := decide_eq_false h2
          by_cases h3 : x < -(most : Int)
          · have d3 := decide_eq_true h3
            have hno := Lib.hid (show ¬ rowMay most below xs from fun h => by have := (h.1 x (List.mem_of_getElem? HX.out)).2.2.1; omega)
            clear h1 h2 h3
            go_wp2_with fail
            go_ret
            exact ⟨ret_f hno.out, Below.refl _ _⟩
          · have d3 := decide_eq_false h3
            by_cases h4 : x < 0
            · have d4 := decide_eq_true h4
              cases below with
              | false =>
                have hno := Lib.hid (show ¬ rowMay most false xs from fun h => by
                  have := (h.1 x (List.mem_of_getElem? HX.out)).2.2.2
                  rcases this with h | h
                  · omega
                  · cases h)
                clear h1 h2 h3 h4
                go_wp2_with fail
                go_ret
                exact ⟨ret_f hno.out, Below.refl _ _⟩
              | true =>
                have I2 := Lib.hid (show ∀ (i : Nat) z, i < k + 1 → xs[i]? = some z → rowOne most true z from fun i z hi hz => by
                  by_cases e : i = k
                  · subst e
                    rw [HX.out] at hz; cases hz
                    exact ⟨h1, by omega, by omega, .inr rfl⟩
                  · exact I.out i z (by omega) hz)
                clear h1 h2 h3 h4
                go_wp2_with fail
                go_roundw
                case measure => simp [intOf]; omega
                case rel => exact ⟨k + 1, by omega, by go_num, by trivial, I2.out⟩
            · have d4 := decide_eq_false h4
              have I2 := Lib.hid (show ∀ (i : Nat) z, i < k + 1 → xs[i]? = some z → rowOne most below z from fun i z hi hz => by
                by_cases e : i = k
                · subst e
                  rw [HX.out] at hz; cases hz
                  exact ⟨h1, by omega, by omega, .inl (by omega)⟩
                · exact I.out i z (by omega) hz)
              clear h1 h2 h3 h4
              go_wp2_with fail
              go_roundw
              case measure => simp [intOf]; omega
              case rel => exact ⟨k + 1, by omega, by go_num, by trivial, I2.out⟩
    · obtain rfl : n = k := by omega
      have hall : ∀ x ∈ xs, rowOne most below x := fun x hx => by
        obtain ⟨i, hi, rfl⟩ := List.getElem_of_mem hx
        exact I.out i _ (by have := L.out; omega) (List.getElem?_eq_getElem hi)
      have HALL := Lib.hid hall
      clear hall
      go_wp2_with fail
      (with_reducible refine (C.out _ (Below.refl _ _)).mono ?_)
      rintro e w1 ⟨rfl, hb1⟩
      have HB := Lib.hid hb1
      clear hb1
      go_wp2_with fail
      go_ret
      refine ⟨?_, HB.out⟩
      by_cases hr : rises xs
      · rw [dec_t hr]; exact ret_t ⟨HALL.out, hr⟩
      · rw [dec_f hr]; exact ret_f fun h => hr h.2

def endsMay (r : RuleD) : Prop := 0 ≤ r.count ∧ r.count ≤ 5000 ∧ (r.until_ = -1 ∨ (0 ≤ r.until_ ∧ r.until_ < 158310720 ∧ r.count = 0))
end Go.Proofs.YtcleicjgeflbnaaGreatDoor
