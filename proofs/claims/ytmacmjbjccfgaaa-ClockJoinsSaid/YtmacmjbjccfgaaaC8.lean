/- The walk of the document's ReadStamp; part of the proof of the laws of layer 3. Conditions: each theorem's own. -/
import Derived.Test.YtmacmjbjccfgaaaC7
namespace Go.Proofs.Ytmacmjbjccfgaaa
open Go.RowKit

theorem refNum_any (y m d : Int) (h0 : -1 ≤ y) (h1 : y ≤ 10000) (hm0 : -1 ≤ m) (hm1 : m ≤ 10000) (n : Int) (b : Bool)
    (h : (n, b) = if validD y m d then (numD y m d, true) else (0, false)) (w : World) :
    Calls Try.prog 30 #[.agg #[.int .i64 y, .int .i64 m, .int .i64 d]] w fun e w' => e = .returned (.tuple #[.int .i64 n, .bool b]) ∧ Below w.heap.size w w' := by
  by_cases hv : validD y m d
  · rw [if_pos hv] at h
    simp only [Prod.mk.injEq] at h
    obtain ⟨rfl, rfl⟩ := h
    exact refNum_yes y m d hv w
  · rw [if_neg hv] at h
    simp only [Prod.mk.injEq] at h
    obtain ⟨rfl, rfl⟩ := h
    exact refNum_no y m d h0 h1 hm0 hm1 hv w

theorem valV_bd (s : ByteArray) (h : s.size ≤ 4) : -1 ≤ valV s ∧ valV s ≤ 9999 := by
  have := numV_bd s h
  unfold valV
  unfold numV at this
  cases hn : numB s.data.toList 0 with
  | none => simp
  | some n => rw [hn] at this; simp only [] at this ⊢; omega

theorem valV_num (s : ByteArray) (n : Int) (h : numV s = (n, true)) : valV s = n := by
  unfold valV
  unfold numV at h
  cases hn : numB s.data.toList 0 with
  | none => rw [hn] at h; simp at h
  | some m => rw [hn] at h; simp at h; exact h.1

set_option maxHeartbeats 8000000 in
theorem refReadStamp_any (s : ByteArray) (r : Int) (h : RefStamp s r) (w : World) :
    Calls Try.prog 20 #[.string s] w fun e w' => e = .returned (.int .i64 r) ∧ Below w.heap.size w w' := by
  by_cases h16 : s.size = 16
  · obtain ⟨t, ht⟩ := refMin_ex (s.extract 11 16)
    obtain ⟨y, e1⟩ : ∃ y, y = valV (s.extract 0 4) := ⟨_, rfl⟩
    obtain ⟨m, e2⟩ : ∃ y, y = valV (s.extract 5 7) := ⟨_, rfl⟩
    obtain ⟨d, e3⟩ : ∃ y, y = valV (s.extract 8 10) := ⟨_, rfl⟩
    obtain ⟨n, o, e5⟩ : ∃ n b, (n, b) = if validD y m d then (numD y m d, true) else ((0 : Int), false) := ⟨_, _, rfl⟩
    have D1 := Lib.hid (fun w => value_any (s.extract 0 4) (by simp; omega) w)
    have D2 := Lib.hid (fun w => value_any (s.extract 5 7) (by simp; omega) w)
    have D3 := Lib.hid (fun w => value_any (s.extract 8 10) (by simp; omega) w)
    have D4 := Lib.hid (fun w => refReadMin_any (s.extract 11 16) t ht w)
    have b1 := valV_bd (s.extract 0 4) (by simp; omega)
    have b2 := valV_bd (s.extract 5 7) (by simp; omega)
    have b3 := valV_bd (s.extract 8 10) (by simp; omega)
    rw [← e1] at D1 b1
    rw [← e2] at D2 b2
    rw [← e3] at D3 b3
    have D5 := Lib.hid (fun w => refNum_any y m d b1.1 (by omega) b2.1 (by omega) n o e5 w)
    have hn5 : 0 ≤ n ∧ n < 109938 ∧ (o = true ↔ validD y m d) ∧ (o = true → n = numD y m d) := by
      by_cases hv : validD y m d
      · have := numD_bd y m d hv (valid_month y m d hv)
        rw [if_pos hv] at e5
        simp only [Prod.mk.injEq] at e5
        obtain ⟨rfl, rfl⟩ := e5
        exact ⟨this.1, this.2, by simp [hv], fun _ => rfl⟩
      · rw [if_neg hv] at e5
        simp only [Prod.mk.injEq] at e5
        obtain ⟨rfl, rfl⟩ := e5
        exact ⟨by omega, by omega, by simp [hv], fun h => by simp at h⟩
    obtain ⟨n1, n2, n3, n4⟩ := hn5
    have htb : t = -1 ∨ 0 ≤ t ∧ t ≤ 1440 := by
      rcases ht with h | h
      · exact .inr ⟨h.1, h.2.1⟩
      · exact .inl h.1
    -- a stamp's text is read as it
    have key : 0 ≤ r → 0 ≤ t ∧ o = true ∧ n * 1440 + t = r := by
      intro hr0
      rcases h with ⟨g0, g1, g2⟩ | ⟨g, _⟩
      · have sb := stamp_bd r g0 g1
        have db := date_bd _ sb.1 sb.2.1
        have dv := date_valid _ sb.1 sb.2.1
        obtain ⟨p1, p2, p3, p4, p5, p6, p7, p8⟩ := stamp_parts (dateY (sDay r)) (dateM (sDay r)) (dD (sDay r)) (sMin r) s (by omega) (by omega) (by omega) g2
        have q1 := (e1.trans (valV_num _ _ p5)).symm
        have q2 := (e2.trans (valV_num _ _ p6)).symm
        have q3 := (e3.trans (valV_num _ _ p7)).symm
        have ho : o = true := n3.2 (by rw [← q1, ← q2, ← q3]; exact dv.1)
        have hnn := n4 ho
        rw [← q1, ← q2, ← q3, dv.2.1] at hnn
        rw [p8] at ht
        rcases ht with ⟨t0, t1, t2⟩ | ⟨_, t2⟩
        · have := minText_inj _ _ ⟨sb.2.2.1, sb.2.2.2.1⟩ ⟨t0, t1⟩ t2
          exact ⟨t0, ho, by omega⟩
        · exact absurd rfl (t2 _ sb.2.2.1 sb.2.2.2.1)
      · omega
    have hrr : r = -1 ∨ 0 ≤ r ∧ r ≤ 158310720 ∧ s = strOfNums (stampText r) := by
      rcases h with h | h
      · exact .inr h
      · exact .inl h.1
    have hno : ∀ a, 0 ≤ a → a ≤ 158310720 → a ≠ r → s ≠ strOfNums (stampText a) := by
      intro a a0 a1 hne e
      rcases h with ⟨g0, g1, g2⟩ | ⟨_, g⟩
      · exact hne (stampText_inj _ _ ⟨a0, a1⟩ ⟨g0, g1⟩ (e.symm.trans g2))
      · exact g a a0 a1 e
    have h16' := h16
    have Hno := Lib.hid hno
    have Key := Lib.hid key
    have Hrr := Lib.hid hrr
    clear ht e1 e2 e3 e5 b1 b2 b3 n3 n4 key hno hrr h h16'
    rcases htb with htm | ⟨t0, t1⟩
    · have hr : r = -1 := by
        rcases Hrr.out with h | h
        · exact h
        · have := (Key.out h.1).1; omega
      subst htm
      have Hr := Lib.hid hr
      clear hr
      go_enter Try.func20, Try.ntmps20
      go_wp2_with fail
      (with_reducible refine (D4.out _).mono ?_); rintro e w4 ⟨rfl, hb4⟩
      go_wp2_with fail
      go_region_held3 (fun W => w.heap.size ≤ W.heap.size ∧ Below w.heap.size w W)
        (first
          | exact ⟨hb4.size, hb4.drew⟩
          | (obtain ⟨q1, q2⟩ := ‹_ ∧ Below _ _ _›; first | exact ⟨q1, q2⟩ | exact ⟨(by have := hbb.size; omega), below_call q2 hbb⟩))
        (first | (go_at_call 31; (with_reducible refine (D1.out _).mono ?_); rintro e w' ⟨rfl, rfl⟩) | (go_at_call 31; (with_reducible refine (D2.out _).mono ?_); rintro e w' ⟨rfl, rfl⟩) | (go_at_call 31; (with_reducible refine (D3.out _).mono ?_); rintro e w' ⟨rfl, rfl⟩) | (go_at_call 30; (with_reducible refine (D5.out _).mono ?_); rintro e w' ⟨rfl, hbb⟩))
      go_wp2
      go_ret
      obtain ⟨q1, q2⟩ := ‹_ ∧ Below _ _ _›
      exact ⟨ret_i Hr.out.symm, q2⟩
    · cases o with
      | false =>
        have hr : r = -1 := by
          rcases Hrr.out with h | h
          · exact h
          · have := (Key.out h.1).2.1; simp at this
        have Hr := Lib.hid hr
        clear hr
        go_enter Try.func20, Try.ntmps20
        go_wp2_with fail
        (with_reducible refine (D4.out _).mono ?_); rintro e w4 ⟨rfl, hb4⟩
        go_wp2_with fail
        go_region_held3 (fun W => w.heap.size ≤ W.heap.size ∧ Below w.heap.size w W)
          (first
            | exact ⟨hb4.size, hb4.drew⟩
            | (obtain ⟨q1, q2⟩ := ‹_ ∧ Below _ _ _›; first | exact ⟨q1, q2⟩ | exact ⟨(by have := hbb.size; omega), below_call q2 hbb⟩))
          (first | (go_at_call 31; (with_reducible refine (D1.out _).mono ?_); rintro e w' ⟨rfl, rfl⟩) | (go_at_call 31; (with_reducible refine (D2.out _).mono ?_); rintro e w' ⟨rfl, rfl⟩) | (go_at_call 31; (with_reducible refine (D3.out _).mono ?_); rintro e w' ⟨rfl, rfl⟩) | (go_at_call 30; (with_reducible refine (D5.out _).mono ?_); rintro e w' ⟨rfl, hbb⟩))
        go_wp2
        go_ret
        obtain ⟨q1, q2⟩ := ‹_ ∧ Below _ _ _›
        exact ⟨ret_i Hr.out.symm, q2⟩
      | true =>
        have hat : 0 ≤ n * 1440 + t ∧ n * 1440 + t ≤ 158310720 := by omega
        have D6 := Lib.hid (fun w => refStamp_any (n * 1440 + t) hat.1 hat.2 w)
        by_cases he : s = strOfNums (stampText (n * 1440 + t))
        · have hr : r = n * 1440 + t := by
            by_cases hne : n * 1440 + t = r
            · exact hne.symm
            · exact absurd he (Hno.out _ hat.1 hat.2 hne)
          have heq : ((strOfNums (stampText (n * 1440 + t))).toList == s.toList) = true := by rw [he]; simp
          have Hr := Lib.hid hr
          have He := Lib.hid he
          clear hr he hat
          go_enter Try.func20, Try.ntmps20
          go_wp2_with fail
          (with_reducible refine (D4.out _).mono ?_); rintro e w4 ⟨rfl, hb4⟩
          go_wp2_with fail
          go_region_held3 (fun W => w.heap.size ≤ W.heap.size ∧ Below w.heap.size w W)
            (first
              | exact ⟨hb4.size, hb4.drew⟩
              | (obtain ⟨q1, q2⟩ := ‹_ ∧ Below _ _ _›; first | exact ⟨q1, q2⟩ | exact ⟨(by have := hbb.size; omega), below_call q2 hbb⟩))
            (first | (go_at_call 31; (with_reducible refine (D1.out _).mono ?_); rintro e w' ⟨rfl, rfl⟩) | (go_at_call 31; (with_reducible refine (D2.out _).mono ?_); rintro e w' ⟨rfl, rfl⟩) | (go_at_call 31; (with_reducible refine (D3.out _).mono ?_); rintro e w' ⟨rfl, rfl⟩) | (go_at_call 30; (with_reducible refine (D5.out _).mono ?_); rintro e w' ⟨rfl, hbb⟩))
          go_wp2_with fail
          (with_reducible refine (D6.out _).mono ?_); rintro e w6 ⟨rfl, hb6⟩
          go_wp2
          go_ret
          obtain ⟨q1, q2⟩ := ‹_ ∧ Below _ _ _›
          exact ⟨ret_i Hr.out.symm, below_call q2 hb6⟩
        · have hr : r = -1 := by
            rcases Hrr.out with h | h
            · exact h
            · exfalso
              have := (Key.out h.1).2.2
              rw [this] at he
              exact he h.2.2
          have heq : ((strOfNums (stampText (n * 1440 + t))).toList == s.toList) = false := by
            rw [beq_eq_false_iff_ne]
            intro e
            apply he
            rw [ByteArray.toList_eq, ByteArray.toList_eq] at e
            exact (ByteArray.ext (Array.toList_inj.1 e)).symm
          have Hr := Lib.hid hr
          have He := Lib.hid he
          clear hr he hat
          go_enter Try.func20, Try.ntmps20
          go_wp2_with fail
          (with_reducible refine (D4.out _).mono ?_); rintro e w4 ⟨rfl, hb4⟩
          go_wp2_with fail
          go_region_held3 (fun W => w.heap.size ≤ W.heap.size ∧ Below w.heap.size w W)
            (first
              | exact ⟨hb4.size, hb4.drew⟩
              | (obtain ⟨q1, q2⟩ := ‹_ ∧ Below _ _ _›; first | exact ⟨q1, q2⟩ | exact ⟨(by have := hbb.size; omega), below_call q2 hbb⟩))
            (first | (go_at_call 31; (with_reducible refine (D1.out _).mono ?_); rintro e w' ⟨rfl, rfl⟩) | (go_at_call 31; (with_reducible refine (D2.out _).mono ?_); rintro e w' ⟨rfl, rfl⟩) | (go_at_call 31; (with_reducible refine (D3.out _).mono ?_); rintro e w' ⟨rfl, rfl⟩) | (go_at_call 30; (with_reducible refine (D5.out _).mono ?_); rintro e w' ⟨rfl, hbb⟩))
          go_wp2_with fail
          (with_reducible refine (D6.out _).mono ?_); rintro e w6 ⟨rfl, hb6⟩
          go_wp2
          go_ret
          obtain ⟨q1, q2⟩ := ‹_ ∧ Below _ _ _›
          exact ⟨ret_i Hr.out.symm, below_call q2 hb6⟩
  · have hr : r = -1 := by
      rcases h with ⟨g0, g1, g2⟩ | h
      · exfalso; apply h16; rw [g2, strOfNums_size]; simp [stampText, minText, digs_length]
      · exact h.1
    subst hr
    have h' : (s.size == 16) = false := by simp [h16]
    clear h
    go_enter Try.func20, Try.ntmps20
    go_wp2
    go_ret
    exact ⟨rfl, Below.refl _ _⟩
end Go.Proofs.Ytmacmjbjccfgaaa
