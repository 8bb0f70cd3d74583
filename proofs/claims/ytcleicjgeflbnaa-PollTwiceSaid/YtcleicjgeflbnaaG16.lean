/- The walk of Rises of layer 24: do polls, each one's votes, what was done, users and their events rise? No condition but that the argument reads. -/
import Derived.Test.YtcleicjgeflbnaaG15
namespace Go.Proofs.Ytcleicjgeflbnaa
open Go.RowKit Go.ChangeShapes Go.WideShapes Go.Deep

def vlt (a b : VoteD) : Prop := a.user < b.user ∨ a.user = b.user ∧ a.slot < b.slot
def votesRise (xs : List VoteD) : Prop := ∀ (i : Nat) a b, xs[i]? = some a → xs[i + 1]? = some b → vlt a b
def votesRiseTo (xs : List VoteD) (k : Nat) : Prop := ∀ (i : Nat) a b, i + 1 < k → xs[i]? = some a → xs[i + 1]? = some b → vlt a b
def StateD.rises24 (x : StateD) : Prop := (rises (·.id) x.polls ∧ ∀ (i : Nat) u, x.polls[i]? = some u → votesRise u.votes) ∧ rises (·.caller) x.done ∧ x.rises17

theorem ret_and {p q r : Prop} (h : p) : Ending.returned (.bool (dec q && dec r)) = Ending.returned (.bool (dec (p ∧ q ∧ r))) := by
  congr 2
  rw [Bool.eq_iff_iff, Bool.and_eq_true, dec_iff, dec_iff, dec_iff]
  simp [h]

set_option maxRecDepth 100000 in
set_option maxHeartbeats 8000000 in
theorem rises24_any (cs : List Value) (x : StateD) (w : World) (h : rState w cs x) :
    Calls Try.prog 14 #[.agg cs.toArray] w fun e w' => e = .returned (.bool (dec x.rises24)) ∧ Below w.heap.size w w' := by
  have H := Lib.hid h
  obtain ⟨u, p, d, rfl, _, hu, hp, hd⟩ := h
  obtain ⟨o2, n2, c2, rfl, l2, _, _, _⟩ := hu.open
  obtain ⟨o1, n1, c1, rfl, l1, mm, kk, R1⟩ := hp.open
  obtain ⟨o3, n3, c3, rfl, l3, _, _, _⟩ := hd.open
  have hM : n1 < 9223372036854775808 := by (unfold maxLen at kk; omega)
  have HB := Lib.hid (show Below w.heap.size w (w.alloc (.cells #[.int .i64 x.clock, .slice o2 n2 c2, .slice o1 n1 c1, .slice o3 n3 c3] 26)) from (Below.refl _ _).alloc (Nat.le_refl _) _)
  have S1 := Lib.hid R1; have L1 := Lib.hid l1
  clear hu hp hd R1 l1 l2 l3 mm kk
  go_enter Try.func14, Try.ntmps14
  go_wp2_with fail
  go_loopw [9] (fun a wr => ∃ k q : Nat, k ≤ n1 ∧ a = .int .i64 k ∧ wr = World.drewN (w.alloc (.cells #[.int .i64 x.clock, .slice o2 n2 c2, .slice o1 n1 c1, .slice o3 n3 c3] 26)) q ∧ risesTo (·.id) x.polls k ∧ ∀ i p, i < k → x.polls[i]? = some p → votesRise p.votes) (fun a _ => n1 - (intOf a).toNat)
  case atStart => exact ⟨0, 0, Nat.zero_le _, rfl, rfl, fun i y _ hi => absurd hi (by omega), fun i y hi => absurd hi (by omega)⟩
  case round =>
    obtain ⟨k, q, hk, rfl, rfl, hris, hall⟩ := hrel
    have HA := Lib.hid hall; have HI := Lib.hid hris
    clear hall hris
    by_cases hlt : k < n1
    · have hlt' : (k : Int) < (n1 : Int) := by omega
      obtain ⟨y, a1, cs1, hy, rfl, q1, ⟨qq, qs, qv, rfl, _, _, _, _, _, ⟨qm, qy, qa, qp, rfl, _⟩, hs, hm⟩, q0, q2⟩ := S1.out.elem HB.out k hlt
      obtain ⟨om, nm, cm, rfl, lm, _, km, RM⟩ := hm.open
      have hMm : nm < 9223372036854775808 := by (unfold maxLen at km; omega)
      simp only [List.cons_append, List.nil_append] at q0 q2
      have hc0 := q0 (by decide)
      have hc8 := q2 12 (by decide) (by decide)
      simp only [List.getElem?_cons_zero, List.getElem?_cons_succ] at hc0 hc8
      have Hy := Lib.hid hy; have SM := Lib.hid RM; have LM := Lib.hid lm
      clear q0 q1 q2 hy RM lm hm km
      by_cases hk0 : k = 0
      · have g0 : ¬ (0 : Int) < (k : Int) := by omega
        have f0 : ¬ 0 < k := by omega
        have c0 := decide_eq_false f0
        have d0 := decide_eq_false g0
        have HI' := Lib.hid (show risesTo (·.id) x.polls (k + 1) from fun i _ _ hi => absurd hi (by omega))
        clear hk0
        go_wp2; go_quiet (fail); go_wp2_with fail
        go_loopw [38] (fun a wr => ∃ m q : Nat, m ≤ nm ∧ a = .int .i64 m ∧ wr = World.drewN (w.alloc (.cells #[.int .i64 x.clock, .slice o2 n2 c2, .slice (some a1) n1 c1, .slice o3 n3 c3] 26)) q ∧ votesRiseTo y.votes m) (fun a _ => nm - (intOf a).toNat)
        case atStart => exact ⟨0, _, Nat.zero_le _, rfl, rfl, fun i y _ hi => absurd hi (by omega)⟩
        case round =>
          obtain ⟨m, q, hm, rfl, rfl, hall⟩ := hrel
          have HR := Lib.hid hall
          clear hall
          by_cases hlt2 : m < nm
          · have hlt2' : (m : Int) < (nm : Int) := by omega
            obtain ⟨v, a2, cs2, hv, rfl, q1, ⟨rfl, _⟩, q0, q2⟩ := SM.out.elem HB.out m hlt2
            have hd0 := q0 (by decide)
            have hd1 := q2 1 (by decide) (by decide)
            simp only [List.getElem?_cons_zero, List.getElem?_cons_succ] at hd0 hd1
            have Hv := Lib.hid hv
            clear q0 q1 q2 hv
            by_cases hm0 : m = 0
            · have g0 : ¬ (0 : Int) < (m : Int) := by omega
              have f0 : ¬ 0 < m := by omega
              have c0 := decide_eq_false f0
              have d0 := decide_eq_false g0
              have HM0 := Lib.hid hm0
              clear hm0
              go_wp2; go_quiet (fail); go_wp2; go_roundw
              case measure => simp [intOf]; omega
              case rel => exact ⟨m + 1, _, by omega, by go_num, rfl, fun i _ _ hi => absurd hi (by have := HM0.out; omega)⟩
            · obtain ⟨j, hj⟩ : ∃ j, m = j + 1 := ⟨m - 1, by omega⟩
              have g0 : (0 : Int) < (m : Int) := by omega
              have f0 : 0 < m := by omega
              have c0 := decide_eq_true f0
              have d0 := decide_eq_true g0
              obtain ⟨z, a3, cs3, hz, e3, q1, ⟨rfl, _⟩, q0, q2⟩ := SM.out.elem HB.out j (by omega)
              cases e3
              have he0 := q0 (by decide)
              have he1 := q2 1 (by decide) (by decide)
              simp only [List.getElem?_cons_zero, List.getElem?_cons_succ] at he0 he1
              have Hz := Lib.hid hz
              have hmj : (m : Int) - 1 = (j : Int) := by omega
              have hjn : (j : Int) < (nm : Int) := by omega
              have HJ := Lib.hid hj
              clear q0 q1 q2 hz hj hm0
              by_cases t1 : v.user < z.user
              · have T1 := decide_eq_true t1
                have H3 := Lib.hid (show ¬ vlt z v from fun e => by unfold vlt at e; omega)
                go_wp2; go_quiet (fail); go_wp2
                go_ret
                exact ⟨ret_f (fun e => H3.out (e.1.2 k y Hy.out j z v Hz.out (by rw [← HJ.out]; exact Hv.out))), (by first | exact below_drewN (below_drewN HB.out _) _ | exact below_drewN HB.out _)⟩
              · have T1 := decide_eq_false t1
                by_cases t2 : z.user = v.user
                · have T2 : (z.user == v.user) = true := by rw [t2]; simp
                  by_cases t3 : v.slot ≤ z.slot
                  · have T3 := decide_eq_true t3
                    have H3 := Lib.hid (show ¬ vlt z v from fun e => by unfold vlt at e; omega)
                    have HT2 := Lib.hid t2; clear t2
                    go_wp2; go_quiet (fail); go_wp2
                    go_ret
                    exact ⟨ret_f (fun e => H3.out (e.1.2 k y Hy.out j z v Hz.out (by rw [← HJ.out]; exact Hv.out))), (by first | exact below_drewN (below_drewN HB.out _) _ | exact below_drewN HB.out _)⟩
                  · have T3 := decide_eq_false t3
                    have H3 := Lib.hid (show vlt z v from by unfold vlt; omega)
                    have HT2 := Lib.hid t2; clear t2
                    go_wp2; go_quiet (fail); go_wp2
                    go_roundw
                    case measure => simp [intOf]; omega
                    case rel =>
                    refine ⟨m + 1, _, by omega, by go_num, rfl, fun i a b hi ha hb => ?_⟩
                    by_cases hij : i = j
                    · subst hij; rw [Hz.out] at ha; rw [← HJ.out, Hv.out] at hb; cases ha; cases hb; exact H3.out
                    · exact HR.out i a b (by have := HJ.out; omega) ha hb
                · have T2 : (z.user == v.user) = false := by rw [beq_eq_false_iff_ne]; exact t2
                  have H3 := Lib.hid (show vlt z v from by unfold vlt; omega)
                  go_wp2; go_quiet (fail); go_wp2
                  go_roundw
                  case measure => simp [intOf]; omega
                  case rel =>
                  refine ⟨m + 1, _, by omega, by go_num, rfl, fun i a b hi ha hb => ?_⟩
                  by_cases hij : i = j
                  · subst hij; rw [Hz.out] at ha; rw [← HJ.out, Hv.out] at hb; cases ha; cases hb; exact H3.out
                  · exact HR.out i a b (by have := HJ.out; omega) ha hb
          · obtain rfl : nm = m := by omega
            go_wp2_with fail
            go_roundw
            case measure => simp [intOf]; omega
            case rel =>
            refine ⟨k + 1, _, by omega, by go_num, rfl, HI'.out, fun i p hi hp => ?_⟩
            by_cases hik : i = k
            · rw [hik, Hy.out] at hp; cases hp
              exact fun i a b ha hb => HR.out i a b (by have := (List.getElem?_eq_some_iff.1 hb).1; have := LM.out; omega) ha hb
            · exact HA.out i p (by omega) hp
      · obtain ⟨j, hj⟩ : ∃ j, k = j + 1 := ⟨k - 1, by omega⟩
        have g0 : (0 : Int) < (k : Int) := by omega
        have f0 : 0 < k := by omega
        have c0 := decide_eq_true f0
        have d0 := decide_eq_true g0
        obtain ⟨z, a3, cs3, hz, e3, q1, ⟨qq3, qs3, qv3, rfl, _⟩, q0, _⟩ := S1.out.elem HB.out j (by omega)
        cases e3
        have he0 := q0 (by decide)
        simp only [List.getElem?_cons_zero] at he0
        have Hz := Lib.hid hz
        have hkj : (k : Int) - 1 = (j : Int) := by omega
        have hjn : (j : Int) < (n1 : Int) := by omega
        have HJ := Lib.hid hj
        clear q0 q1 hz hj hk0
        by_cases hlt3 : z.id < y.id
        · have g : ¬ y.id ≤ z.id := by omega
          have dg := decide_eq_false g
          have HI' := Lib.hid (show risesTo (·.id) x.polls (k + 1) from fun i a b hi ha hb => by
            by_cases hij : i = j
            · subst hij; rw [Hz.out] at ha; rw [← HJ.out, Hy.out] at hb; cases ha; cases hb; exact hlt3
            · exact HI.out i a b (by have := HJ.out; omega) ha hb)
          clear hlt3
          go_wp2; go_quiet (fail); go_wp2_with fail
          go_loopw [38] (fun a wr => ∃ m q : Nat, m ≤ nm ∧ a = .int .i64 m ∧ wr = World.drewN (w.alloc (.cells #[.int .i64 x.clock, .slice o2 n2 c2, .slice (some a1) n1 c1, .slice o3 n3 c3] 26)) q ∧ votesRiseTo y.votes m) (fun a _ => nm - (intOf a).toNat)
          case atStart => exact ⟨0, _, Nat.zero_le _, rfl, rfl, fun i y _ hi => absurd hi (by omega)⟩
          case round =>
            obtain ⟨m, q, hm, rfl, rfl, hall⟩ := hrel
            have HR := Lib.hid hall
            clear hall
            by_cases hlt2 : m < nm
            · have hlt2' : (m : Int) < (nm : Int) := by omega
              obtain ⟨v, a2, cs2, hv, rfl, q1, ⟨rfl, _⟩, q0, q2⟩ := SM.out.elem HB.out m hlt2
              have hd0 := q0 (by decide)
              have hd1 := q2 1 (by decide) (by decide)
              simp only [List.getElem?_cons_zero, List.getElem?_cons_succ] at hd0 hd1
              have Hv := Lib.hid hv
              clear q0 q1 q2 hv
              by_cases hm0 : m = 0
              · have g0 : ¬ (0 : Int) < (m : Int) := by omega
                have f0 : ¬ 0 < m := by omega
                have c0 := decide_eq_false f0
                have d0 := decide_eq_false g0
                have HM0 := Lib.hid hm0
                clear hm0
                go_wp2; go_quiet (fail); go_wp2; go_roundw
                case measure => simp [intOf]; omega
                case rel => exact ⟨m + 1, _, by omega, by go_num, rfl, fun i _ _ hi => absurd hi (by have := HM0.out; omega)⟩
              · obtain ⟨j, hj⟩ : ∃ j, m = j + 1 := ⟨m - 1, by omega⟩
                have g0 : (0 : Int) < (m : Int) := by omega
                have f0 : 0 < m := by omega
                have c0 := decide_eq_true f0
                have d0 := decide_eq_true g0
                obtain ⟨z, a3, cs3, hz, e3, q1, ⟨rfl, _⟩, q0, q2⟩ := SM.out.elem HB.out j (by omega)
                cases e3
                have he0 := q0 (by decide)
                have he1 := q2 1 (by decide) (by decide)
                simp only [List.getElem?_cons_zero, List.getElem?_cons_succ] at he0 he1
                have Hz := Lib.hid hz
                have hmj : (m : Int) - 1 = (j : Int) := by omega
                have hjn : (j : Int) < (nm : Int) := by omega
                have HJ := Lib.hid hj
                clear q0 q1 q2 hz hj hm0
                by_cases t1 : v.user < z.user
                · have T1 := decide_eq_true t1
                  have H3 := Lib.hid (show ¬ vlt z v from fun e => by unfold vlt at e; omega)
                  go_wp2; go_quiet (fail); go_wp2
                  go_ret
                  exact ⟨ret_f (fun e => H3.out (e.1.2 k y Hy.out j z v Hz.out (by rw [← HJ.out]; exact Hv.out))), (by first | exact below_drewN (below_drewN HB.out _) _ | exact below_drewN HB.out _)⟩
                · have T1 := decide_eq_false t1
                  by_cases t2 : z.user = v.user
                  · have T2 : (z.user == v.user) = true := by rw [t2]; simp
                    by_cases t3 : v.slot ≤ z.slot
                    · have T3 := decide_eq_true t3
                      have H3 := Lib.hid (show ¬ vlt z v from fun e => by unfold vlt at e; omega)
                      have HT2 := Lib.hid t2; clear t2
                      go_wp2; go_quiet (fail); go_wp2
                      go_ret
                      exact ⟨ret_f (fun e => H3.out (e.1.2 k y Hy.out j z v Hz.out (by rw [← HJ.out]; exact Hv.out))), (by first | exact below_drewN (below_drewN HB.out _) _ | exact below_drewN HB.out _)⟩
                    · have T3 := decide_eq_false t3
                      have H3 := Lib.hid (show vlt z v from by unfold vlt; omega)
                      have HT2 := Lib.hid t2; clear t2
                      go_wp2; go_quiet (fail); go_wp2
                      go_roundw
                      case measure => simp [intOf]; omega
                      case rel =>
                      refine ⟨m + 1, _, by omega, by go_num, rfl, fun i a b hi ha hb => ?_⟩
                      by_cases hij : i = j
                      · subst hij; rw [Hz.out] at ha; rw [← HJ.out, Hv.out] at hb; cases ha; cases hb; exact H3.out
                      · exact HR.out i a b (by have := HJ.out; omega) ha hb
                  · have T2 : (z.user == v.user) = false := by rw [beq_eq_false_iff_ne]; exact t2
                    have H3 := Lib.hid (show vlt z v from by unfold vlt; omega)
                    go_wp2; go_quiet (fail); go_wp2
                    go_roundw
                    case measure => simp [intOf]; omega
                    case rel =>
                    refine ⟨m + 1, _, by omega, by go_num, rfl, fun i a b hi ha hb => ?_⟩
                    by_cases hij : i = j
                    · subst hij; rw [Hz.out] at ha; rw [← HJ.out, Hv.out] at hb; cases ha; cases hb; exact H3.out
                    · exact HR.out i a b (by have := HJ.out; omega) ha hb
            · obtain rfl : nm = m := by omega
              go_wp2_with fail
              go_roundw
              case measure => simp [intOf]; omega
              case rel =>
              refine ⟨k + 1, _, by omega, by go_num, rfl, HI'.out, fun i p hi hp => ?_⟩
              by_cases hik : i = k
              · rw [hik, Hy.out] at hp; cases hp
                exact fun i a b ha hb => HR.out i a b (by have := (List.getElem?_eq_some_iff.1 hb).1; have := LM.out; omega) ha hb
              · exact HA.out i p (by omega) hp
        · have g : y.id ≤ z.id := by omega
          have dg := decide_eq_true g
          have H3 := Lib.hid hlt3
          clear hlt3
          go_wp2; go_quiet (fail); go_wp2
          go_ret
          exact ⟨ret_f (fun e => absurd (show z.id < y.id from e.1.1 j z y Hz.out (by rw [← HJ.out]; exact Hy.out)) (by have := H3.out; omega)), (by first | exact below_drewN (below_drewN HB.out _) _ | exact below_drewN HB.out _)⟩
    · obtain rfl : n1 = k := by omega
      have C := Lib.hid (fun (W : World) (hb : Below w.heap.size w W) => rises18 _ x W (H.out.later hb) _ (fun V hV => rises17_any _ x V ((H.out.later hb).later hV)))
      go_wp2_with fail
      (with_reducible refine (C.out _ (below_drewN HB.out _)).mono ?_)
      rintro e w1 ⟨rfl, hb1⟩
      have HB1 := Lib.hid (below_call (below_drewN HB.out q) hb1)
      clear hb1
      have HP := Lib.hid (show (rises (·.id) x.polls ∧ ∀ (i : Nat) u, x.polls[i]? = some u → votesRise u.votes) from ⟨fun i a b ha hb => HI.out i a b (by have := (List.getElem?_eq_some_iff.1 hb).1; have := L1.out; omega) ha hb, fun i p hp => HA.out i p (by have := (List.getElem?_eq_some_iff.1 hp).1; have := L1.out; omega) hp⟩)
      go_wp2_with fail
      go_ret
      exact ⟨ret_and HP.out, HB1.out⟩
end Go.Proofs.Ytcleicjgeflbnaa
