/- The walk of Great of law 19: is a user greater than its bounds? No condition but that the argument reads. -/
import Derived.Test.YtcleicjgeflbnaaG12
namespace Go.Proofs.Ytcleicjgeflbnaa
open Go.RowKit Go.ChangeShapes Go.WideShapes Go.Deep

def UserD.small19 (u : UserD) : Prop := u.settings.small ∧ u.settings.turns.length ≤ 8 ∧ u.events.length ≤ 6 ∧ ∀ (i : Nat) e, u.events[i]? = some e → e.event.small

set_option maxHeartbeats 8000000 in
theorem great19_any (cs : List Value) (x : UserD) (w : World) (h : rUser w cs x) :
    Calls Try.prog 34 #[.agg cs.toArray] w fun e w' => e = .returned (.bool (!dec x.small19)) ∧ Below w.heap.size w w' := by
  obtain ⟨st1, ve1, rfl, _, _, hr, hv⟩ := h
  have SR := Lib.hid hr
  obtain ⟨vt, vh, vo, rfl, _, _, _, ht, ⟨oh, nh, ch, rfl, _⟩, ⟨oo, no, co, rfl, _⟩⟩ := hr
  obtain ⟨ot, nt, ct, rfl, lt, _, _, _⟩ := ht.open
  obtain ⟨oe, ne, ce, rfl, le, _, ke, RE⟩ := hv.open
  have SE := Lib.hid RE; have LE := Lib.hid le; have LT := Lib.hid lt
  simp only [List.cons_append, List.nil_append]
  clear hv RE le ht lt
  have HB := Lib.hid (show Below w.heap.size w (w.alloc (.cells #[.int .u32 x.id, .int .i64 x.settings.base, .slice ot nt ct, .slice oh nh ch, .slice oo no co, .int .i64 x.settings.before, .int .i64 x.settings.after, .int .u64 x.version, .slice oe ne ce] 76)) from (Below.refl _ _).alloc (Nat.le_refl _) _)
  by_cases hst : x.settings.small
  · have C := Lib.hid (fun (W : World) (hb : Below w.heap.size w W) => n_t (greatSettings_any _ x.settings W (SR.out.later hb)) hst)
    have HST := Lib.hid hst
    clear hst
    by_cases hnt : nt ≤ 8
    · have gt : ¬ (8 : Int) < (nt : Int) := by omega
      have dt := decide_eq_false gt
      by_cases hne : ne ≤ 6
      · have ge : ¬ (6 : Int) < (ne : Int) := by omega
        have de := decide_eq_false ge
        go_enter Try.func34, Try.ntmps34
        go_wp2_with fail
        (with_reducible refine (C.out _ HB.out).mono ?_)
        rintro e w1 ⟨rfl, hb1⟩
        have kU : ∀ j, World.cell? w1 ⟨w.heap.size, j, none⟩ = _ := fun j => hb1.cell (by simp)
        have hz1 : w.heap.size < w1.heap.size := Nat.lt_of_lt_of_le (by simp) hb1.size
        have HB2 := Lib.hid (below_call HB.out hb1)
        clear hb1
        go_wp2_with fail
        go_loopw [25] (fun a wr => ∃ k : Nat, k ≤ ne ∧ a = .int .i64 k ∧ Below w.heap.size w wr ∧ w.heap.size < wr.heap.size ∧ ∀ i e, i < k → x.events[i]? = some e → e.event.small) (fun a _ => ne - (intOf a).toNat)
        case atStart => exact ⟨0, Nat.zero_le _, rfl, HB2.out, hz1, fun i y hi => absurd hi (by omega)⟩
        case round =>
          clear kU hz1
          obtain ⟨m, hm, rfl, hbw2, hz2, hall2⟩ := hrel
          obtain ⟨wm, rfl⟩ : ∃ x, x = wr := ⟨_, rfl⟩
          have HB3 := Lib.hid hbw2; have HA2 := Lib.hid hall2
          clear hbw2 hall2
          by_cases hlt2 : m < ne
          · have hlt2' : (m : Int) < (ne : Int) := by omega
            obtain ⟨v, a2, cs2, hv, rfl, q1, q3, q0, q2⟩ := SE.out.elem HB3.out m hlt2
            obtain ⟨ev, rfl, _, hev⟩ := q3
            have SV := Lib.hid hev
            obtain ⟨er, ee, ep, ec, rfl, _, _, ⟨rm, rd, ry, rs, rfl, _, _, _, _, _, ⟨_, _, _, rfl, _⟩, ⟨_, _, _, rfl, _⟩, ⟨_, _, _, rfl, _⟩, ⟨_, _, _, rfl, _⟩⟩, ⟨_, _, _, rfl, _⟩, ⟨_, _, _, rfl, _⟩, ⟨_, _, _, rfl, _⟩⟩ := hev
            simp only [List.cons_append, List.nil_append] at q0 q2
            have ec0 := q0 (by decide)
            have ec1 := q2 1 (by decide) (by decide)
            have ec2 := q2 2 (by decide) (by decide)
            have ec3 := q2 3 (by decide) (by decide)
            have ec4 := q2 4 (by decide) (by decide)
            have ec5 := q2 5 (by decide) (by decide)
            have ec6 := q2 6 (by decide) (by decide)
            have ec7 := q2 7 (by decide) (by decide)
            have ec8 := q2 8 (by decide) (by decide)
            have ec9 := q2 9 (by decide) (by decide)
            have ec10 := q2 10 (by decide) (by decide)
            have ec11 := q2 11 (by decide) (by decide)
            have ec12 := q2 12 (by decide) (by decide)
            have ec13 := q2 13 (by decide) (by decide)
            have ec14 := q2 14 (by decide) (by decide)
            have ec15 := q2 15 (by decide) (by decide)
            have ec16 := q2 16 (by decide) (by decide)
            simp only [List.getElem?_cons_succ, List.getElem?_cons_zero] at ec0 ec1 ec2 ec3 ec4 ec5 ec6 ec7 ec8 ec9 ec10 ec11 ec12 ec13 ec14 ec15 ec16
            have Hv := Lib.hid hv
            clear q0 q1 q2 hv
            have HBo := Lib.hid (fun (o : Obj) => HB3.out.alloc (Nat.le_of_lt hz2) o)
            by_cases hev : v.event.small
            · have C := Lib.hid (fun (W : World) (hb : Below w.heap.size w W) => n_t (greatEvent_any _ v.event W (SV.out.later hb)) hev)
              have HEV := Lib.hid hev
              clear hev
              simp only [List.cons_append, List.nil_append] at C
              go_wp2_with fail
              (with_reducible refine (C.out _ (HBo.out _)).mono ?_)
              rintro e w2 ⟨rfl, hb2⟩
              have hz3 : w.heap.size < w2.heap.size := Nat.lt_of_lt_of_le hz2 (Nat.le_trans (by simp) hb2.size)
              have HB4 := Lib.hid (below_call (HBo.out _) hb2)
              clear hb2 ec0 ec1 ec2 ec3 ec4 ec5 ec6 ec7 ec8 ec9 ec10 ec11 ec12 ec13 ec14 ec15 ec16
              go_wp2_with fail
              go_roundw
              case measure => simp [intOf]; omega
              case rel =>
              refine ⟨m + 1, by omega, by go_num, HB4.out, hz3, fun i e hi he => ?_⟩
              by_cases hik : i = m
              · rw [hik, Hv.out] at he; cases he; exact HEV.out
              · exact HA2.out i e (by omega) he
            · have C := Lib.hid (fun (W : World) (hb : Below w.heap.size w W) => n_f (greatEvent_any _ v.event W (SV.out.later hb)) hev)
              have HEV := Lib.hid hev
              clear hev
              simp only [List.cons_append, List.nil_append] at C
              go_wp2_with fail
              (with_reducible refine (C.out _ (HBo.out _)).mono ?_)
              rintro e w2 ⟨rfl, hb2⟩
              have HB4 := Lib.hid (below_call (HBo.out _) hb2)
              clear hb2
              go_wp2_with fail
              go_ret
              exact ⟨ret_nf (fun e => HEV.out (e.2.2.2 m v Hv.out)), HB4.out⟩
          · obtain rfl : ne = m := by omega
            go_wp2_with fail
            go_ret
            exact ⟨ret_nt ⟨HST.out, by rw [LT.out]; exact hnt, by rw [LE.out]; exact hne, fun i e he => HA2.out i e (by have := (List.getElem?_eq_some_iff.1 he).1; have := LE.out; omega) he⟩, HB3.out⟩
      · have ge : (6 : Int) < (ne : Int) := by omega
        have de := decide_eq_true ge
        go_enter Try.func34, Try.ntmps34
        go_wp2_with fail
        (with_reducible refine (C.out _ HB.out).mono ?_)
        rintro e w1 ⟨rfl, hb1⟩
        have kU : ∀ j, World.cell? w1 ⟨w.heap.size, j, none⟩ = _ := fun j => hb1.cell (by simp)
        have HB2 := Lib.hid (below_call HB.out hb1)
        clear hb1
        go_wp2_with fail
        go_ret
        exact ⟨ret_nf (fun e => hne (by have := e.2.2.1; have := LE.out; omega)), HB2.out⟩
    · have gt : (8 : Int) < (nt : Int) := by omega
      have dt := decide_eq_true gt
      go_enter Try.func34, Try.ntmps34
      go_wp2_with fail
      (with_reducible refine (C.out _ HB.out).mono ?_)
      rintro e w1 ⟨rfl, hb1⟩
      have kU : ∀ j, World.cell? w1 ⟨w.heap.size, j, none⟩ = _ := fun j => hb1.cell (by simp)
      have HB2 := Lib.hid (below_call HB.out hb1)
      clear hb1
      go_wp2_with fail
      go_ret
      exact ⟨ret_nf (fun e => hnt (by have := e.2.1; have := LT.out; omega)), HB2.out⟩
  · have C := Lib.hid (fun (W : World) (hb : Below w.heap.size w W) => n_f (greatSettings_any _ x.settings W (SR.out.later hb)) hst)
    have HST := Lib.hid hst
    clear hst
    go_enter Try.func34, Try.ntmps34
    go_wp2_with fail
    (with_reducible refine (C.out _ HB.out).mono ?_)
    rintro e w1 ⟨rfl, hb1⟩
    skip
    have HB2 := Lib.hid (below_call HB.out hb1)
    clear hb1
    go_wp2_with fail
    go_ret
    exact ⟨ret_nf (fun e => HST.out e.1), HB2.out⟩
end Go.Proofs.Ytcleicjgeflbnaa
