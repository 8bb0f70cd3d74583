/- The walk of Great of law 20 at no users: is a state greater than its bounds? No condition but that the argument reads. -/
import Derived.Test.YtcleicjgeflbnaaG16
import Derived.Test.YtcleicjgeflbnaaG17
namespace Go.Proofs.Ytcleicjgeflbnaa
open Go.RowKit Go.ChangeShapes Go.WideShapes Go.Deep

def StateD.small20 (x : StateD) : Prop := x.users.length ≤ 6 ∧ x.rises17 ∧ ∀ (i : Nat) u, x.users[i]? = some u → u.small19

set_option maxHeartbeats 8000000 in
theorem great20_any (cs : List Value) (x : StateD) (w : World) (h : rState w cs x) :
    Calls Try.prog 13 #[.agg cs.toArray, .slice none 0 0] w fun e w' => e = .returned (.bool (!dec x.small20)) ∧ Below w.heap.size w w' := by
  have SW := Lib.hid h
  obtain ⟨u, p, d, rfl, _, hu, hp, hd⟩ := h
  obtain ⟨o1, n1, c1, rfl, l1, _, _, R1⟩ := hu.open
  obtain ⟨o2, n2, c2, rfl, l2, _, _, _⟩ := hp.open
  obtain ⟨o3, n3, c3, rfl, l3, _, _, _⟩ := hd.open
  have HB := Lib.hid (show Below w.heap.size w (w.alloc (.cells #[.int .i64 x.clock, .slice o1 n1 c1, .slice o2 n2 c2, .slice o3 n3 c3] 26)) from (Below.refl _ _).alloc (Nat.le_refl _) _)
  have S1 := Lib.hid R1; have L1 := Lib.hid l1
  clear hu hp hd R1 l1 l2 l3
  by_cases hn : n1 ≤ 6
  · have g1 : ¬ (6 : Int) < (n1 : Int) := by omega
    have d1 := decide_eq_false g1
    by_cases h17 : x.rises17
    · have C := Lib.hid (fun (W : World) (hb : Below w.heap.size w W) => c_t (rises17_any _ x W (SW.out.later hb)) h17)
      have H17 := Lib.hid h17
      clear h17
      go_enter Try.func13, Try.ntmps13
      go_wp2_with fail
      (with_reducible refine (C.out _ HB.out).mono ?_)
      rintro e w1 ⟨rfl, hb1⟩
      have kA1 : ∀ j, World.cell? w1 ⟨w.heap.size, j, none⟩ = World.cell? (w.alloc (.cells #[.int .i64 x.clock, .slice o1 n1 c1, .slice o2 n2 c2, .slice o3 n3 c3] 26)) ⟨w.heap.size, j, none⟩ := fun j => hb1.cell (by simp)
      have hz1 : w.heap.size < w1.heap.size := Nat.lt_of_lt_of_le (by simp) hb1.size
      have HB2 := Lib.hid (below_call HB.out hb1)
      clear hb1
      go_wp2_with fail
      go_loopw [24] (fun a wr => ∃ k : Nat, k ≤ n1 ∧ a = .int .i64 k ∧ Below w.heap.size w wr ∧ w.heap.size < wr.heap.size ∧ ∀ i y, i < k → x.users[i]? = some y → y.small19) (fun a _ => n1 - (intOf a).toNat)
      case atStart => exact ⟨0, Nat.zero_le _, rfl, HB2.out, hz1, fun i y hi => absurd hi (by omega)⟩
      case round =>
        clear kA1 hz1
        obtain ⟨k, hk, rfl, hbw, hz, hall⟩ := hrel
        obtain ⟨wl, rfl⟩ : ∃ x, x = wr := ⟨_, rfl⟩
        have HB3 := Lib.hid hbw; have HA := Lib.hid hall
        clear hbw hall
        by_cases hlt : k < n1
        · have hlt' : (k : Int) < (n1 : Int) := by omega
          obtain ⟨y, a1, cs1, hx, rfl, q1, q3, q0, q2⟩ := S1.out.elem HB3.out k hlt
          have SR := Lib.hid q3
          obtain ⟨st1, ve1, rfl, _, _, hr, hv⟩ := q3
          obtain ⟨vt, vh, vo, rfl, _, _, _, ⟨ot, nt, ct, rfl, _⟩, ⟨oh, nh, ch, rfl, _⟩, ⟨oo, no, co, rfl, _⟩⟩ := hr
          obtain ⟨oe, ne, ce, rfl, _⟩ := hv
          simp only [List.cons_append, List.nil_append] at q0 q2
          have hc0 := q0 (by decide)
          have hc1 := q2 1 (by decide) (by decide)
          have hc2 := q2 2 (by decide) (by decide)
          have hc3 := q2 3 (by decide) (by decide)
          have hc4 := q2 4 (by decide) (by decide)
          have hc5 := q2 5 (by decide) (by decide)
          have hc6 := q2 6 (by decide) (by decide)
          have hc7 := q2 7 (by decide) (by decide)
          have hc8 := q2 8 (by decide) (by decide)
          simp only [List.getElem?_cons_zero, List.getElem?_cons_succ] at hc0 hc1 hc2 hc3 hc4 hc5 hc6 hc7 hc8
          have Hx := Lib.hid hx
          clear q0 q1 q2 hx
          have HBo := Lib.hid (fun (o : Obj) => HB3.out.alloc (Nat.le_of_lt hz) o)
          by_cases hst : y.small19
          · have C := Lib.hid (fun (W : World) (hb : Below w.heap.size w W) => n_t (great19_any _ y W (SR.out.later hb)) hst)
            have HST := Lib.hid hst
            clear hst
            simp only [List.cons_append, List.nil_append] at C
            go_wp2_with fail
            (with_reducible refine (C.out _ (HBo.out _)).mono ?_)
            rintro e w2 ⟨rfl, hb2⟩
            have hz3 : w.heap.size < w2.heap.size := Nat.lt_of_lt_of_le hz (Nat.le_trans (by simp) hb2.size)
            have HB4 := Lib.hid (below_call (HBo.out _) hb2)
            clear hb2 hc0 hc1 hc2 hc3 hc4 hc5 hc6 hc7 hc8
            go_wp2_with fail
            go_roundw
            case measure => simp [intOf]; omega
            case rel =>
            refine ⟨k + 1, by omega, by go_num, HB4.out, hz3, fun i e hi he => ?_⟩
            by_cases hik : i = k
            · rw [hik, Hx.out] at he; cases he; exact HST.out
            · exact HA.out i e (by omega) he
          · have C := Lib.hid (fun (W : World) (hb : Below w.heap.size w W) => n_f (great19_any _ y W (SR.out.later hb)) hst)
            have HST := Lib.hid hst
            clear hst
            simp only [List.cons_append, List.nil_append] at C
            go_wp2_with fail
            (with_reducible refine (C.out _ (HBo.out _)).mono ?_)
            rintro e w2 ⟨rfl, hb2⟩
            have HB4 := Lib.hid (below_call (HBo.out _) hb2)
            clear hb2
            go_wp2_with fail
            go_ret
            exact ⟨ret_nf (fun e => HST.out (e.2.2 k y Hx.out)), HB4.out⟩
        · obtain rfl : n1 = k := by omega
          go_wp2_with fail
          go_ret
          exact ⟨ret_nt ⟨by rw [L1.out]; exact hn, H17.out, fun i e he => HA.out i e (by have := (List.getElem?_eq_some_iff.1 he).1; have := L1.out; omega) he⟩, HB3.out⟩
    · have C := Lib.hid (fun (W : World) (hb : Below w.heap.size w W) => c_f (rises17_any _ x W (SW.out.later hb)) h17)
      have H17 := Lib.hid h17
      clear h17
      go_enter Try.func13, Try.ntmps13
      go_wp2_with fail
      (with_reducible refine (C.out _ HB.out).mono ?_)
      rintro e w1 ⟨rfl, hb1⟩
      have HB2 := Lib.hid (below_call HB.out hb1)
      clear hb1
      go_wp2_with fail
      go_ret
      exact ⟨ret_nf (fun e => H17.out e.2.1), HB2.out⟩
  · have g1 : (6 : Int) < (n1 : Int) := by omega
    have d1 := decide_eq_true g1
    go_enter Try.func13, Try.ntmps13
    go_wp2_with fail
    go_ret
    exact ⟨ret_nf (fun e => hn (by have := e.1; have := L1.out; omega)), HB.out⟩
end Go.Proofs.Ytcleicjgeflbnaa
