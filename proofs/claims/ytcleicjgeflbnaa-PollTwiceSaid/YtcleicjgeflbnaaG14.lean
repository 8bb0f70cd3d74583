/- The walk of Musts: do those that must come to polls rise? No condition but that the argument reads. -/
import Derived.Test.YtcleicjgeflbnaaG13
namespace Go.Proofs.Ytcleicjgeflbnaa
open Go.RowKit Go.ChangeShapes Go.WideShapes Go.Deep

def StateD.musts (x : StateD) : Prop := ∀ (i : Nat) p, x.polls[i]? = some p → rises id p.query.must

set_option maxHeartbeats 8000000 in
theorem musts_any (cs : List Value) (x : StateD) (w : World) (h : rState w cs x) :
    Calls Try.prog 15 #[.agg cs.toArray] w fun e w' => e = .returned (.bool (dec x.musts)) ∧ Below w.heap.size w w' := by
  obtain ⟨u, p, d, rfl, _, hu, hp, hd⟩ := h
  obtain ⟨o1, n1, c1, rfl, l1, _, _, _⟩ := hu.open
  obtain ⟨o2, n2, c2, rfl, l2, mm, kk, R2⟩ := hp.open
  obtain ⟨o3, n3, c3, rfl, l3, _, _, _⟩ := hd.open
  have hM : n2 < 9223372036854775808 := by (unfold maxLen at kk; omega)
  have HB := Lib.hid (show Below w.heap.size w (w.alloc (.cells #[.int .i64 x.clock, .slice o1 n1 c1, .slice o2 n2 c2, .slice o3 n3 c3] 26)) from (Below.refl _ _).alloc (Nat.le_refl _) _)
  have S2 := Lib.hid R2; have L2 := Lib.hid l2
  clear hu hp hd R2 l1 l2 l3 mm kk
  go_enter Try.func15, Try.ntmps15
  go_wp2_with fail
  go_loopw [9] (fun a wr => ∃ k q : Nat, k ≤ n2 ∧ a = .int .i64 k ∧ wr = World.drewN (w.alloc (.cells #[.int .i64 x.clock, .slice o1 n1 c1, .slice o2 n2 c2, .slice o3 n3 c3] 26)) q ∧ ∀ i p, i < k → x.polls[i]? = some p → rises id p.query.must) (fun a _ => n2 - (intOf a).toNat)
  case atStart => exact ⟨0, 0, Nat.zero_le _, rfl, rfl, fun i y hi => absurd hi (by omega)⟩
  case round =>
    obtain ⟨k, q, hk, rfl, rfl, hall⟩ := hrel
    have HA := Lib.hid hall
    clear hall
    by_cases hlt : k < n2
    · have hlt' : (k : Int) < (n2 : Int) := by omega
      obtain ⟨y, a1, cs1, hy, rfl, q1, ⟨qq, qs, qv, rfl, _, _, _, _, _, ⟨qm, qy, qa, qp, rfl, _, _, _, _, _, hm, _⟩, _⟩, q0, q2⟩ := S2.out.elem HB.out k hlt
      obtain ⟨om, nm, cm, rfl, lm, _, km, RM⟩ := hm.open
      have hMm : nm < 9223372036854775808 := by (unfold maxLen at km; omega)
      simp only [List.cons_append, List.nil_append] at q2
      have hc6 := q2 6 (by decide) (by decide)
      simp only [List.getElem?_cons_zero, List.getElem?_cons_succ] at hc6
      have Hy := Lib.hid hy; have SM := Lib.hid RM; have LM := Lib.hid lm
      clear q0 q1 q2 hy RM lm hm
      go_wp2_with fail
      go_loopw [21] (fun a wr => ∃ m q : Nat, m ≤ nm ∧ a = .int .i64 m ∧ wr = World.drewN (w.alloc (.cells #[.int .i64 x.clock, .slice o1 n1 c1, .slice (some a1) n2 c2, .slice o3 n3 c3] 26)) q ∧ risesTo id y.query.must m) (fun a _ => nm - (intOf a).toNat)
      case atStart => exact ⟨0, _, Nat.zero_le _, rfl, rfl, fun i y _ hi => absurd hi (by omega)⟩
      case round =>
        obtain ⟨m, q, hm, rfl, rfl, hall⟩ := hrel
        have HR := Lib.hid hall
        clear hall
        by_cases hlt2 : m < nm
        · have hlt2' : (m : Int) < (nm : Int) := by omega
          obtain ⟨v, a2, cs2, hv, rfl, q1, ⟨rfl, _⟩, q0, _⟩ := SM.out.elem HB.out m hlt2
          have hd0 := q0 (by decide)
          simp only [List.getElem?_cons_zero, Nat.mul_one] at hd0
          have Hv := Lib.hid hv
          clear q0 q1 hv
          cases m with
          | zero =>
            go_wp2; go_quiet (fail); go_wp2; go_roundw
            case measure => simp [intOf]; omega
            case rel => exact ⟨1, _, by omega, by go_num, rfl, fun i _ _ hi => absurd hi (by omega)⟩
          | succ j =>
            obtain ⟨z, a3, cs3, hz, e3, q1, ⟨rfl, _⟩, q0, _⟩ := SM.out.elem HB.out j (by omega)
            cases e3
            have he0 := q0 (by decide)
            simp only [List.getElem?_cons_zero, Nat.mul_one] at he0
            have Hz := Lib.hid hz
            clear q0 q1 hz
            have hd1 := hd0
            rw [show a2.add (j + 1) = ⟨a2.block, a2.off + (j + 1), none⟩ by unfold Addr.add; rw [if_neg (by omega)]] at hd1
            have hjb : (j : Int) ≤ 9223372036854775807 := by omega
            have hjw : IntKind.i64.wrap (j : Int) = (j : Int) := by rw [IntKind.wrap_i64]; omega
            have hjn : (j : Int) < (nm : Int) := by omega
            have hj1 : (j : Int) + 1 < (nm : Int) := by omega
            have hj0 : (0 : Int) ≤ (j : Int) + 1 := by omega
            have hjt : ((j : Int) + 1).toNat = j + 1 := by omega
            by_cases hlt3 : z < v
            · have g : ¬ v ≤ z := by omega
              have dg := decide_eq_false g
              have H3 := Lib.hid hlt3
              clear hlt3
              go_wp2; go_quiet (fail); go_wp2
              go_roundw
              case measure => simp [intOf]; omega
              case rel =>
              refine ⟨j + 1 + 1, _, by omega, by go_num, rfl, fun i a b hi ha hb => ?_⟩
              by_cases hij : i = j
              · subst hij; rw [Hz.out] at ha; rw [Hv.out] at hb; cases ha; cases hb; exact H3.out
              · exact HR.out i a b (by omega) ha hb
            · have g : v ≤ z := by omega
              have dg := decide_eq_true g
              have H3 := Lib.hid hlt3
              clear hlt3
              go_wp2; go_quiet (fail); go_wp2
              go_ret
              exact ⟨ret_f (fun e => absurd (show z < v from e k y Hy.out j z v Hz.out Hv.out) (by have := H3.out; omega)), (by first | exact below_drewN (below_drewN HB.out _) _ | exact below_drewN HB.out _)⟩
        · obtain rfl : nm = m := by omega
          go_wp2_with fail
          go_roundw
          case measure => simp [intOf]; omega
          case rel =>
          refine ⟨k + 1, _, by omega, by go_num, rfl, fun i p hi hp => ?_⟩
          by_cases hik : i = k
          · rw [hik, Hy.out] at hp; cases hp
            exact fun i a b ha hb => HR.out i a b (by have := (List.getElem?_eq_some_iff.1 hb).1; have := LM.out; omega) ha hb
          · exact HA.out i p (by omega) hp
    · obtain rfl : n2 = k := by omega
      go_wp2_with fail
      go_ret
      exact ⟨ret_t (fun i p hp => HA.out i p (by have := (List.getElem?_eq_some_iff.1 hp).1; have := L2.out; omega) hp), (by first | exact below_drewN (below_drewN HB.out _) _ | exact below_drewN HB.out _)⟩
end Go.Proofs.Ytcleicjgeflbnaa
