/- The walk of GreatState: whether a state is greater than its bounds. No condition but that the argument reads. -/
import Derived.Test.YtcleicjgeflbnaaG11
namespace Go.Proofs.Ytcleicjgeflbnaa
open Go.RowKit Go.ChangeShapes Go.WideShapes Go.Deep

def UserD.small (u : UserD) : Prop := u.settings.small ∧ u.events.length ≤ 10 ∧ ∀ (i : Nat) e, u.events[i]? = some e → e.event.small
def StateD.small (x : StateD) : Prop := x.users.length ≤ 12 ∧ x.polls.length ≤ 8 ∧ x.done.length ≤ 100 ∧ (∀ (i : Nat) u, x.users[i]? = some u → u.small) ∧ ∀ (i : Nat) p, x.polls[i]? = some p → p.small

set_option maxHeartbeats 8000000 in
theorem greatState_loops (cs : List Value) (x : StateD) (w : World) (h : rState w cs x) (s1 : x.users.length ≤ 12) (s2 : x.polls.length ≤ 8) (s3 : x.done.length ≤ 100) :
    Calls Try.prog 11 #[.agg cs.toArray] w fun e w' => e = .returned (.bool (!dec x.small)) ∧ Below w.heap.size w w' := by
  obtain ⟨u, p, d, rfl, _, hu, hp, hd⟩ := h
  obtain ⟨o1, n1, c1, rfl, l1, _, _, R1⟩ := hu.open
  obtain ⟨o2, n2, c2, rfl, l2, _, _, R2⟩ := hp.open
  obtain ⟨o3, n3, c3, rfl, l3, _, _, _⟩ := hd.open
  have b1 : n1 ≤ 12 := by omega
  have b2 : n2 ≤ 8 := by omega
  have g1 : ¬ (12 : Int) < (n1 : Int) := by omega
  have g2 : ¬ (8 : Int) < (n2 : Int) := by omega
  have g3 : ¬ (100 : Int) < (n3 : Int) := by omega
  have d1 := decide_eq_false g1
  have d2 := decide_eq_false g2
  have d3 := decide_eq_false g3
  have HB := Lib.hid (show Below w.heap.size w (w.alloc (.cells #[.int .i64 x.clock, .slice o1 n1 c1, .slice o2 n2 c2, .slice o3 n3 c3] 26)) from (Below.refl _ _).alloc (Nat.le_refl _) _)
  have S1 := Lib.hid R1; have S2 := Lib.hid R2; have L1 := Lib.hid l1; have L2 := Lib.hid l2; have Hs := Lib.hid (And.intro s1 (And.intro s2 s3))
  clear hu hp hd R1 R2 l1 l2 l3 s1 s2 s3
  go_enter Try.func11, Try.ntmps11
  go_wp2_with fail
  go_loopw [26] (fun a wr => ∃ k : Nat, k ≤ n1 ∧ a = .int .i64 k ∧ (∀ j, wr.cell? ⟨w.heap.size, j, none⟩ = World.cell? (w.alloc (.cells #[.int .i64 x.clock, .slice o1 n1 c1, .slice o2 n2 c2, .slice o3 n3 c3] 26)) ⟨w.heap.size, j, none⟩) ∧ Below w.heap.size w wr ∧ w.heap.size < wr.heap.size ∧ ∀ i y, i < k → x.users[i]? = some y → y.small) (fun a _ => n1 - (intOf a).toNat)
  case atStart => exact ⟨0, Nat.zero_le _, rfl, fun _ => rfl, HB.out, by simp, fun i y hi => absurd hi (by omega)⟩
  case round =>
    obtain ⟨k, hk, rfl, kA, hbw, hz, hall⟩ := hrel
    obtain ⟨wl, rfl⟩ : ∃ x, x = wr := ⟨_, rfl⟩
    have HB1 := Lib.hid hbw; have HA := Lib.hid hall
    clear hbw hall
    by_cases hlt : k < n1
    · have hlt' : (k : Int) < (n1 : Int) := by omega
      obtain ⟨y, a1, cs1, hx, rfl, q1, q3, q0, q2⟩ := S1.out.elem HB1.out k hlt
      obtain ⟨st1, ve1, rfl, _, _, hr, hv⟩ := q3
      have SR := Lib.hid hr
      obtain ⟨vt, vh, vo, rfl, _, _, _, ⟨ot, nt, ct, rfl, _⟩, ⟨oh, nh, ch, rfl, _⟩, ⟨oo, no, co, rfl, _⟩⟩ := hr
      obtain ⟨oe, ne, ce, rfl, le, _, _, RE⟩ := hv.open
      have SE := Lib.hid RE; have LE := Lib.hid le
      simp only [List.cons_append, List.nil_append] at q0 q2
      have hc0 := q0 (by decide)
      have hc1 := q2 1 (by decide) (by decide)
      have hc2 := q2 2 (by decide) (by decide)
      have hc3 := q2 3 (by decide) (by decide)
      have hc4 := q2 4 (by decide) (by decide)
      have hc5 := q2 5 (by decide) (by decide)
      have hc6 := q2 6 (by decide) (by decide)
      have hc7 := q2 7 (by decide) (by decide)
      have hc8 := q2 8 (by decide) (by decide)
      simp only [List.getElem?_cons_zero, List.getElem?_cons_succ] at hc0 hc1 hc2 hc3 hc4 hc5 hc6 hc7 hc8
      have Hx := Lib.hid hx
      clear q0 q1 q2 hx hv RE le
      have HBa := Lib.hid (HB1.out.alloc (Nat.le_of_lt hz) (.cells #[.int .u32 y.id, .int .i64 y.settings.base, .slice ot nt ct, .slice oh nh ch, .slice oo no co, .int .i64 y.settings.before, .int .i64 y.settings.after, .int .u64 y.version, .slice oe ne ce] 76))
      by_cases hst : y.settings.small
      · have C := Lib.hid (fun (W : World) (hb : Below w.heap.size w W) => n_t (greatSettings_any _ y.settings W (SR.out.later hb)) hst)
        have HST := Lib.hid hst
        clear hst
        by_cases hne : ne ≤ 10
        · have ge : ¬ (10 : Int) < (ne : Int) := by omega
          have de := decide_eq_false ge
          go_wp2_with fail
          (with_reducible refine (C.out _ HBa.out).mono ?_)
          rintro e w1 ⟨rfl, hb1⟩
          have kA1 : ∀ j, World.cell? w1 ⟨w.heap.size, j, none⟩ = World.cell? (w.alloc (.cells #[.int .i64 x.clock, .slice (some a1) n1 c1, .slice o2 n2 c2, .slice o3 n3 c3] 26)) ⟨w.heap.size, j, none⟩ := fun j => (hb1.cell (by simp; omega)).trans ((World.cell?_alloc_lt wl _ _ hz).trans (kA j))
          have kU : ∀ j, World.cell? w1 ⟨wl.heap.size, j, none⟩ = World.cell? (wl.alloc (.cells #[.int .u32 y.id, .int .i64 y.settings.base, .slice ot nt ct, .slice oh nh ch, .slice oo no co, .int .i64 y.settings.before, .int .i64 y.settings.after, .int .u64 y.version, .slice oe ne ce] 76)) ⟨wl.heap.size, j, none⟩ := fun j => hb1.cell (by simp)
          have hz1 : wl.heap.size < w1.heap.size := Nat.lt_of_lt_of_le (by simp) hb1.size
          have HB2 := Lib.hid (below_call HBa.out hb1)
          clear hb1 kA hc0 hc1 hc2 hc3 hc4 hc5 hc6 hc7 hc8
          go_wp2_with fail
          go_loopw [46] (fun a wr => ∃ k : Nat, k ≤ ne ∧ a = .int .i64 k ∧ (∀ j, wr.cell? ⟨w.heap.size, j, none⟩ = World.cell? (w.alloc (.cells #[.int .i64 x.clock, .slice (some a1) n1 c1, .slice o2 n2 c2, .slice o3 n3 c3] 26)) ⟨w.heap.size, j, none⟩) ∧ (∀ j, wr.cell? ⟨wl.heap.size, j, none⟩ = World.cell? (wl.alloc (.cells #[.int .u32 y.id, .int .i64 y.settings.base, .slice ot nt ct, .slice oh nh ch, .slice oo no co, .int .i64 y.settings.before, .int .i64 y.settings.after, .int .u64 y.version, .slice oe ne ce] 76)) ⟨wl.heap.size, j, none⟩) ∧ Below w.heap.size w wr ∧ wl.heap.size < wr.heap.size ∧ ∀ i e, i < k → y.events[i]? = some e → e.event.small) (fun a _ => ne - (intOf a).toNat)
          case atStart => exact ⟨0, Nat.zero_le _, rfl, kA1, kU, HB2.out, hz1, fun i y hi => absurd hi (by omega)⟩
          case round =>
            clear kA1 kU
            obtain ⟨m, hm, rfl, kA2, kU2, hbw2, hz2, hall2⟩ := hrel
            obtain ⟨wm, rfl⟩ : ∃ x, x = wr := ⟨_, rfl⟩
            have HB3 := Lib.hid hbw2; have HA2 := Lib.hid hall2
            clear hbw2 hall2
            by_cases hlt2 : m < ne
            · have hlt2' : (m : Int) < (ne : Int) := by omega
              obtain ⟨v, a2, cs2, hv, rfl, q1, q3, q0, q2⟩ := SE.out.elem HB3.out m hlt2
              obtain ⟨ev, rfl, _, hev⟩ := q3
              have SV := Lib.hid hev
              obtain ⟨er, ee, ep, ec, rfl, _, _, ⟨rm, rd, ry, rs, rfl, _⟩, _⟩ := hev
              simp only [List.cons_append, List.nil_append] at q0 q2
              have ec0 := q0 (by decide)
              have ec1 := q2 1 (by decide) (by decide)
              have ec2 := q2 2 (by decide) (by decide)
              have ec3 := q2 3 (by decide) (by decide)
              have ec4 := q2 4 (by decide) (by decide)
              have ec5 := q2 5 (by decide) (by decide)
              have ec6 := q2 6 (by decide) (by decide)
              have ec7 := q2 7 (by decide) (by decide)
              have ec8 := q2 8 (by decide) (by decide)
              have ec9 := q2 9 (by decide) (by decide)
              have ec10 := q2 10 (by decide) (by decide)
              have ec11 := q2 11 (by decide) (by decide)
              have ec12 := q2 12 (by decide) (by decide)
              have ec13 := q2 13 (by decide) (by decide)
              have ec14 := q2 14 (by decide) (by decide)
              have ec15 := q2 15 (by decide) (by decide)
              have ec16 := q2 16 (by decide) (by decide)
              simp only [List.getElem?_cons_succ, List.getElem?_cons_zero] at ec0 ec1 ec2 ec3 ec4 ec5 ec6 ec7 ec8 ec9 ec10 ec11 ec12 ec13 ec14 ec15 ec16
              have Hv := Lib.hid hv
              clear q0 q1 q2 hv
              by_cases hev : v.event.small
              · have C := Lib.hid (fun (W : World) (hb : Below w.heap.size w W) => n_t (greatEvent_any _ v.event W (SV.out.later hb)) hev)
                have HEV := Lib.hid hev
                clear hev
                simp only [List.cons_append, List.nil_append] at C
                go_wp2_with fail
                (with_reducible refine (C.out _ HB3.out).mono ?_)
                rintro e w2 ⟨rfl, hb2⟩
                have kA3 : ∀ j, World.cell? w2 ⟨w.heap.size, j, none⟩ = _ := fun j => (hb2.cell (show w.heap.size < wm.heap.size by omega)).trans (kA2 j)
                have kU3 : ∀ j, World.cell? w2 ⟨wl.heap.size, j, none⟩ = _ := fun j => (hb2.cell hz2).trans (kU2 j)
                have hz3 : wl.heap.size < w2.heap.size := Nat.lt_of_lt_of_le hz2 hb2.size
                have HB4 := Lib.hid (below_call HB3.out hb2)
                clear hb2 ec0 ec1 ec2 ec3 ec4 ec5 ec6 ec7 ec8 ec9 ec10 ec11 ec12 ec13 ec14 ec15 ec16
                go_wp2_with fail
                go_roundw
                case measure => simp [intOf]; omega
                case rel =>
                refine ⟨m + 1, by omega, by go_num, kA3, kU3, HB4.out, hz3, fun i e hi he => ?_⟩
                by_cases hik : i = m
                · rw [hik, Hv.out] at he; cases he; exact HEV.out
                · exact HA2.out i e (by omega) he
              · have C := Lib.hid (fun (W : World) (hb : Below w.heap.size w W) => n_f (greatEvent_any _ v.event W (SV.out.later hb)) hev)
                have HEV := Lib.hid hev
                clear hev
                simp only [List.cons_append, List.nil_append] at C
                go_wp2_with fail
                (with_reducible refine (C.out _ HB3.out).mono ?_)
                rintro e w2 ⟨rfl, hb2⟩
                have HB4 := Lib.hid (below_call HB3.out hb2)
                clear hb2
                go_wp2_with fail
                go_ret
                exact ⟨ret_nf (fun e => HEV.out ((e.2.2.2.1 k y Hx.out).2.2 m v Hv.out)), HB4.out⟩
            · obtain rfl : ne = m := by omega
              have HEVS := Lib.hid (show y.small from ⟨HST.out, by rw [LE.out]; exact hne, fun i e he => HA2.out i e (by have := (List.getElem?_eq_some_iff.1 he).1; have := LE.out; omega) he⟩)
              go_wp2_with fail
              go_roundw
              case measure => simp [intOf]; omega
              case rel =>
              refine ⟨k + 1, by omega, by go_num, kA2, HB3.out, by omega, fun i z hi hz' => ?_⟩
              by_cases hik : i = k
              · rw [hik, Hx.out] at hz'; cases hz'; exact HEVS.out
              · exact HA.out i z (by omega) hz'
        · have ge : (10 : Int) < (ne : Int) := by omega
          have de := decide_eq_true ge
          go_wp2_with fail
          (with_reducible refine (C.out _ HBa.out).mono ?_)
          rintro e w1 ⟨rfl, hb1⟩
          have kU : ∀ j, World.cell? w1 ⟨wl.heap.size, j, none⟩ = World.cell? (wl.alloc (.cells #[.int .u32 y.id, .int .i64 y.settings.base, .slice ot nt ct, .slice oh nh ch, .slice oo no co, .int .i64 y.settings.before, .int .i64 y.settings.after, .int .u64 y.version, .slice oe ne ce] 76)) ⟨wl.heap.size, j, none⟩ := fun j => hb1.cell (by simp)
          have HB2 := Lib.hid (below_call HBa.out hb1)
          clear hb1 kA
          go_wp2_with fail
          go_ret
          exact ⟨ret_nf (fun e => hne (by have := (e.2.2.2.1 k y Hx.out).2.1; have := LE.out; omega)), HB2.out⟩
      · have C := Lib.hid (fun (W : World) (hb : Below w.heap.size w W) => n_f (greatSettings_any _ y.settings W (SR.out.later hb)) hst)
        have HST := Lib.hid hst
        clear hst
        go_wp2_with fail
        (with_reducible refine (C.out _ HBa.out).mono ?_)
        rintro e w1 ⟨rfl, hb1⟩
        have HB2 := Lib.hid (below_call HBa.out hb1)
        clear hb1
        go_wp2_with fail
        go_ret
        exact ⟨ret_nf (fun e => HST.out (e.2.2.2.1 k y Hx.out).1), HB2.out⟩
    · obtain rfl : n1 = k := by omega
      go_wp2_with fail
      go_loopw [61] (fun a wr => ∃ k : Nat, k ≤ n2 ∧ a = .int .i64 k ∧ (∀ j, wr.cell? ⟨w.heap.size, j, none⟩ = World.cell? (w.alloc (.cells #[.int .i64 x.clock, .slice o1 n1 c1, .slice o2 n2 c2, .slice o3 n3 c3] 26)) ⟨w.heap.size, j, none⟩) ∧ Below w.heap.size w wr ∧ w.heap.size < wr.heap.size ∧ ∀ i y, i < k → x.polls[i]? = some y → y.small) (fun a _ => n2 - (intOf a).toNat)
      case atStart => exact ⟨0, Nat.zero_le _, rfl, kA, HB1.out, hz, fun i y hi => absurd hi (by omega)⟩
      case round =>
        clear kA hz
        obtain ⟨k, hk, rfl, kA, hbw, hz, hall⟩ := hrel
        obtain ⟨wm, rfl⟩ : ∃ x, x = wr := ⟨_, rfl⟩
        have HB3 := Lib.hid hbw; have HA2 := Lib.hid hall
        clear hbw hall
        by_cases hlt2 : k < n2
        · have hlt2' : (k : Int) < (n2 : Int) := by omega
          obtain ⟨y, a2, cs2, hx, rfl, q1, q3, q0, q2⟩ := S2.out.elem HB3.out k hlt2
          have SV := Lib.hid q3
          obtain ⟨qq, qs, qv, rfl, _, _, _, _, _, ⟨qm, qy, qa, qp, rfl, _⟩, _⟩ := q3
          simp only [List.cons_append, List.nil_append] at q0 q2
          have ec0 := q0 (by decide)
          have ec1 := q2 1 (by decide) (by decide)
          have ec2 := q2 2 (by decide) (by decide)
          have ec3 := q2 3 (by decide) (by decide)
          have ec4 := q2 4 (by decide) (by decide)
          have ec5 := q2 5 (by decide) (by decide)
          have ec6 := q2 6 (by decide) (by decide)
          have ec7 := q2 7 (by decide) (by decide)
          have ec8 := q2 8 (by decide) (by decide)
          have ec9 := q2 9 (by decide) (by decide)
          have ec10 := q2 10 (by decide) (by decide)
          have ec11 := q2 11 (by decide) (by decide)
          have ec12 := q2 12 (by decide) (by decide)
          have ec13 := q2 13 (by decide) (by decide)
          have ec14 := q2 14 (by decide) (by decide)
          have ec15 := q2 15 (by decide) (by decide)
          simp only [List.getElem?_cons_succ, List.getElem?_cons_zero] at ec0 ec1 ec2 ec3 ec4 ec5 ec6 ec7 ec8 ec9 ec10 ec11 ec12 ec13 ec14 ec15
          have Hv := Lib.hid hx
          clear q0 q1 q2 hx
          by_cases hev : y.small
          · have C := Lib.hid (fun (W : World) (hb : Below w.heap.size w W) => n_t (greatPoll_any _ y W (SV.out.later hb)) hev)
            have HEV := Lib.hid hev
            clear hev
            simp only [List.cons_append, List.nil_append] at C
            go_wp2_with fail
            (with_reducible refine (C.out _ HB3.out).mono ?_)
            rintro e w2 ⟨rfl, hb2⟩
            have kA3 : ∀ j, World.cell? w2 ⟨w.heap.size, j, none⟩ = _ := fun j => (hb2.cell (show w.heap.size < wm.heap.size from hz)).trans (kA j)
            have hz3 : w.heap.size < w2.heap.size := Nat.lt_of_lt_of_le hz hb2.size
            have HB4 := Lib.hid (below_call HB3.out hb2)
            clear hb2 ec0 ec1 ec2 ec3 ec4 ec5 ec6 ec7 ec8 ec9 ec10 ec11 ec12 ec13 ec14 ec15
            go_wp2_with fail
            go_roundw
            case measure => simp [intOf]; omega
            case rel =>
            refine ⟨k + 1, by omega, by go_num, kA3, HB4.out, hz3, fun i e hi he => ?_⟩
            by_cases hik : i = k
            · rw [hik, Hv.out] at he; cases he; exact HEV.out
            · exact HA2.out i e (by omega) he
          · have C := Lib.hid (fun (W : World) (hb : Below w.heap.size w W) => n_f (greatPoll_any _ y W (SV.out.later hb)) hev)
            have HEV := Lib.hid hev
            clear hev
            simp only [List.cons_append, List.nil_append] at C
            go_wp2_with fail
            (with_reducible refine (C.out _ HB3.out).mono ?_)
            rintro e w2 ⟨rfl, hb2⟩
            have HB4 := Lib.hid (below_call HB3.out hb2)
            clear hb2
            go_wp2_with fail
            go_ret
            exact ⟨ret_nf (fun e => HEV.out (e.2.2.2.2 k y Hv.out)), HB4.out⟩
        · obtain rfl : n2 = k := by omega
          go_wp2_with fail
          go_ret
          exact ⟨ret_nt ⟨Hs.out.1, Hs.out.2.1, Hs.out.2.2, fun i e he => HA.out i e (by have := (List.getElem?_eq_some_iff.1 he).1; have := L1.out; omega) he, fun i e he => HA2.out i e (by have := (List.getElem?_eq_some_iff.1 he).1; have := L2.out; omega) he⟩, HB3.out⟩
set_option maxHeartbeats 8000000 in
theorem greatState_any (cs : List Value) (x : StateD) (w : World) (h : rState w cs x) :
    Calls Try.prog 11 #[.agg cs.toArray] w fun e w' => e = .returned (.bool (!dec x.small)) ∧ Below w.heap.size w w' := by
  by_cases s1 : x.users.length ≤ 12
  · by_cases s2 : x.polls.length ≤ 8
    · by_cases s3 : x.done.length ≤ 100
      · exact greatState_loops cs x w h s1 s2 s3
      · obtain ⟨u, p, d, rfl, _, hu, hp, hd⟩ := h
        obtain ⟨o1, n1, c1, rfl, l1, _, _, _⟩ := hu.open
        obtain ⟨o2, n2, c2, rfl, l2, _, _, _⟩ := hp.open
        obtain ⟨o3, n3, c3, rfl, l3, _, _, _⟩ := hd.open
        have g1 : ¬ (12 : Int) < (n1 : Int) := by omega
        have d1 := decide_eq_false g1
        have g2 : ¬ (8 : Int) < (n2 : Int) := by omega
        have d2 := decide_eq_false g2
        have g3 : (100 : Int) < (n3 : Int) := by omega
        have d3 := decide_eq_true g3
        have HB := Lib.hid (fun (o : Obj) => (Below.refl w.heap.size w).alloc (Nat.le_refl _) o)
        have HS := Lib.hid s3
        clear l1 l2 l3 hu hp hd s3
        go_enter Try.func11, Try.ntmps11
        go_wp2_with fail
        go_ret
        exact ⟨ret_nf (fun e => HS.out e.2.2.1), HB.out _⟩
    · obtain ⟨u, p, d, rfl, _, hu, hp, hd⟩ := h
      obtain ⟨o1, n1, c1, rfl, l1, _, _, _⟩ := hu.open
      obtain ⟨o2, n2, c2, rfl, l2, _, _, _⟩ := hp.open
      obtain ⟨o3, n3, c3, rfl, l3, _, _, _⟩ := hd.open
      have g1 : ¬ (12 : Int) < (n1 : Int) := by omega
      have d1 := decide_eq_false g1
      have g2 : (8 : Int) < (n2 : Int) := by omega
      have d2 := decide_eq_true g2
      have HB := Lib.hid (fun (o : Obj) => (Below.refl w.heap.size w).alloc (Nat.le_refl _) o)
      have HS := Lib.hid s2
      clear l1 l2 l3 hu hp hd s2
      go_enter Try.func11, Try.ntmps11
      go_wp2_with fail
      go_ret
      exact ⟨ret_nf (fun e => HS.out e.2.1), HB.out _⟩
  · obtain ⟨u, p, d, rfl, _, hu, hp, hd⟩ := h
    obtain ⟨o1, n1, c1, rfl, l1, _, _, _⟩ := hu.open
    obtain ⟨o2, n2, c2, rfl, l2, _, _, _⟩ := hp.open
    obtain ⟨o3, n3, c3, rfl, l3, _, _, _⟩ := hd.open
    have g1 : (12 : Int) < (n1 : Int) := by omega
    have d1 := decide_eq_true g1
    have HB := Lib.hid (fun (o : Obj) => (Below.refl w.heap.size w).alloc (Nat.le_refl _) o)
    have HS := Lib.hid s1
    clear l1 l2 l3 hu hp hd s1
    go_enter Try.func11, Try.ntmps11
    go_wp2_with fail
    go_ret
    exact ⟨ret_nf (fun e => HS.out e.1), HB.out _⟩
end Go.Proofs.Ytcleicjgeflbnaa
