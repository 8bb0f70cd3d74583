/- Walks of the functions that ask whether a state's rows rise. No condition but that the argument reads. -/
import Derived.Test.YtcleicjgeflbnaaG11
namespace Go.Proofs.Ytcleicjgeflbnaa
open Go.RowKit Go.ChangeShapes Go.WideShapes Go.Deep

/-- Does a row rise, strictly? -/
def rises {α : Type} (f : α → Int) (xs : List α) : Prop := ∀ (i : Nat) a b, xs[i]? = some a → xs[i + 1]? = some b → f a < f b
def risesTo {α : Type} (f : α → Int) (xs : List α) (k : Nat) : Prop := ∀ (i : Nat) a b, i + 1 < k → xs[i]? = some a → xs[i + 1]? = some b → f a < f b

theorem ret_fa {p : Prop} {b : Bool} (h : ¬ p) : Ending.returned (.bool false) = Ending.returned (.bool (dec p && b)) := by rw [dec_f h]; rfl
theorem ret_ta {p : Prop} {b : Bool} (h : p) : Ending.returned (.bool b) = Ending.returned (.bool (dec p && b)) := by rw [dec_t h]; simp

set_option maxHeartbeats 8000000 in
theorem rises18 (cs : List Value) (x : StateD) (w : World) (h : rState w cs x) (b17 : Bool)
    (h17 : ∀ W, Below w.heap.size w W → Calls Try.prog 33 #[.agg cs.toArray] W fun e w' => e = .returned (.bool b17) ∧ Below W.heap.size W w') :
    Calls Try.prog 35 #[.agg cs.toArray] w fun e w' => e = .returned (.bool (dec (rises (·.caller) x.done) && b17)) ∧ Below w.heap.size w w' := by
  obtain ⟨u, p, d, rfl, _, hu, hp, hd⟩ := h
  obtain ⟨o1, n1, c1, rfl, l1, _, _, _⟩ := hu.open
  obtain ⟨o2, n2, c2, rfl, l2, _, _, _⟩ := hp.open
  obtain ⟨o3, n3, c3, rfl, l3, mm, kk, R3⟩ := hd.open
  have hM : n3 < 9223372036854775808 := by (unfold maxLen at kk; omega)
  have HB := Lib.hid (show Below w.heap.size w (w.alloc (.cells #[.int .i64 x.clock, .slice o1 n1 c1, .slice o2 n2 c2, .slice o3 n3 c3] 26)) from (Below.refl _ _).alloc (Nat.le_refl _) _)
  have S3 := Lib.hid R3; have L3 := Lib.hid l3; have H17 := Lib.hid h17
  clear hu hp hd R3 l1 l2 l3 h17 mm kk
  go_enter Try.func35, Try.ntmps35
  go_wp2_with fail
  go_loopw [7] (fun a wr => ∃ k q : Nat, k ≤ n3 ∧ a = .int .i64 k ∧ wr = World.drewN (w.alloc (.cells #[.int .i64 x.clock, .slice o1 n1 c1, .slice o2 n2 c2, .slice o3 n3 c3] 26)) q ∧ risesTo (·.caller) x.done k) (fun a _ => n3 - (intOf a).toNat)
  case atStart => exact ⟨0, 0, Nat.zero_le _, rfl, rfl, fun i y _ hi => absurd hi (by omega)⟩
  case round =>
    obtain ⟨k, q, hk, rfl, rfl, hall⟩ := hrel
    have HA := Lib.hid hall
    clear hall
    by_cases hlt : k < n3
    · have hlt' : (k : Int) < (n3 : Int) := by omega
      obtain ⟨y, a1, cs1, hy, rfl, q1, ⟨rfl, _⟩, q0, _⟩ := S3.out.elem HB.out k hlt
      have hc0 := q0 (by decide)
      simp only [List.getElem?_cons_zero] at hc0
      have Hy := Lib.hid hy
      clear q0 q1 hy
      cases k with
      | zero =>
        go_wp2; go_quiet (fail); go_wp2; go_roundw
        case measure => simp [intOf]; omega
        case rel => exact ⟨1, _, by omega, by go_num, rfl, fun i _ _ hi => absurd hi (by omega)⟩
      | succ j =>
        obtain ⟨z, a2, cs2, hz, e2, q1, ⟨rfl, _⟩, q0, _⟩ := S3.out.elem HB.out j (by omega)
        cases e2
        have hd0 := q0 (by decide)
        simp only [List.getElem?_cons_zero] at hd0
        have Hz := Lib.hid hz
        clear q0 q1 hz
        by_cases hlt3 : z.caller < y.caller
        · have g : ¬ y.caller ≤ z.caller := by omega
          have dg := decide_eq_false g
          have H3 := Lib.hid hlt3
          clear hlt3
          go_wp2; go_quiet (fail); go_wp2
          go_roundw
          case measure => simp [intOf]; omega
          case rel =>
          refine ⟨j + 1 + 1, _, by omega, by go_num, rfl, fun i a b hi ha hb => ?_⟩
          by_cases hij : i = j
          · subst hij; rw [Hz.out] at ha; rw [Hy.out] at hb; cases ha; cases hb; exact H3.out
          · exact HA.out i a b (by omega) ha hb
        · have g : y.caller ≤ z.caller := by omega
          have dg := decide_eq_true g
          have H3 := Lib.hid hlt3
          clear hlt3
          go_wp2; go_quiet (fail); go_wp2
          go_ret
          exact ⟨ret_fa (fun e => absurd (show z.caller < y.caller from e j z y Hz.out Hy.out) (by have := H3.out; omega)), (by first | exact below_drewN (below_drewN HB.out _) _ | exact below_drewN HB.out _)⟩
    · obtain rfl : n3 = k := by omega
      go_wp2_with fail
      (with_reducible refine (H17.out _ (below_drewN HB.out _)).mono ?_)
      rintro e w1 ⟨rfl, hb1⟩
      have HB1 := Lib.hid (below_call (below_drewN HB.out q) hb1)
      clear hb1
      go_wp2_with fail
      go_ret
      exact ⟨ret_ta (fun i a b ha hb => HA.out i a b (by have := (List.getElem?_eq_some_iff.1 hb).1; have := L3.out; omega) ha hb), HB1.out⟩
end Go.Proofs.Ytcleicjgeflbnaa
