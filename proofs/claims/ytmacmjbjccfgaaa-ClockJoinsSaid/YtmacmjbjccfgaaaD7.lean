/- Labels that are joined: the plain law, and the walk of the law ClockJoins. Conditions: none of the law. -/
import Derived.Test.YtmacmjbjccfgaaaD6
namespace Go.Proofs.Ytmacmjbjccfgaaa
open Go.RowKit

theorem app_list (a r : ByteArray) : (a ++ r).data.toList = a.data.toList ++ r.data.toList := by simp
theorem app_size (a r : ByteArray) : (a ++ r).size = a.size + r.size := by simp

theorem bAt_left (a r : ByteArray) (i : Nat) (h : i < a.size) : bAt (a ++ r) i = bAt a i := by
  have h' : i < a.data.toList.length := by simpa using h
  unfold bAt
  rw [app_list]
  simp only [List.getD_eq_getElem?_getD]
  rw [List.getElem?_append_left h']

theorem bAt_right (a r : ByteArray) (i : Nat) : bAt (a ++ r) (a.size + i) = bAt r i := by
  have h' : a.data.toList.length = a.size := by simp
  unfold bAt
  rw [app_list]
  simp only [List.getD_eq_getElem?_getD]
  rw [List.getElem?_append_right (by omega), h', Nat.add_sub_cancel_left]

theorem decode_right (a r : ByteArray) (i : Nat) : Utf8.decode (a ++ r) (a.size + i) = Utf8.decode r i := by
  simp only [Utf8.decode, get_bang, Nat.add_assoc, bAt_right, app_size]
  have e : ∀ k, decide (a.size + (i + k) < a.size + r.size) = decide (i + k < r.size) := fun k => by rw [decide_eq_decide]; omega
  simp only [e]

theorem decode_left (a r : ByteArray) (pos : Nat) (hp : pos < a.size) (hv : letterB (oneF a pos).2 = true) : Utf8.decode (a ++ r) pos = Utf8.decode a pos := by
  have hw := width_pos a pos hp
  have hsz := app_size a r
  have hp' : pos < (a ++ r).size := by omega
  by_cases h1 : (Utf8.decode a pos).2 = 1
  · have e := decode_one a pos hp h1
    by_cases h0 : bAt a pos < 128
    · have e2 : Utf8.decode a pos = (bAt a pos, 1) := by
        rw [decode_ascii a pos hp (by rw [← bAt_get]; exact h0), bAt_get a pos hp]
      have h0' : bAt (a ++ r) pos < 128 := by rw [bAt_left a r pos hp]; exact h0
      have e3 : Utf8.decode (a ++ r) pos = (bAt (a ++ r) pos, 1) := by
        rw [decode_ascii (a ++ r) pos hp' (by rw [← bAt_get]; exact h0'), bAt_get (a ++ r) pos hp']
      rw [e3, e2, bAt_left a r pos hp]
    · rw [if_neg h0] at e
      rw [e] at hv
      exact absurd hv (by decide)
  · have hwd := decode_wide a pos hp (by omega)
    generalize hd : Utf8.decode a pos = d at *
    have hB : ∀ k, k < d.2 → bAt (a ++ r) (pos + k) = bAt a (pos + k) := fun k hk => bAt_left a r _ (by omega)
    have hb0 := hB 0 (by omega)
    rw [Nat.add_zero] at hb0
    rw [← hd] at h1 ⊢
    have hd2 : (Utf8.decode a pos).2 = d.2 := by rw [hd]
    clear hd
    revert h1 hd2
    simp only [Utf8.decode, get_bang, Nat.add_zero]
    rw [hb0]
    by_cases c0 : bAt a pos < 128
    · rw [if_pos c0]; intro h; exact absurd rfl h
    · rw [if_neg c0, if_neg c0]
      by_cases c1 : (bAt a pos / 32 == 6 && (decide (pos + 1 < a.size) && bAt a (pos + 1) / 64 == 2)) = true
      · rw [if_pos c1]
        simp only [Bool.and_eq_true, decide_eq_true_eq, beq_iff_eq] at c1
        intro _ hd2
        have hb1 : bAt (a ++ r) (pos + 1) = bAt a (pos + 1) := bAt_left a r _ (by omega)
        rw [hb1, if_pos (by simp [c1]; omega)]
      · rw [if_neg c1]
        by_cases c2 : (bAt a pos / 16 == 14 && (decide (pos + 1 < a.size) && bAt a (pos + 1) / 64 == 2) && (decide (pos + 2 < a.size) && bAt a (pos + 2) / 64 == 2)) = true
        · rw [if_pos c2]
          simp only [Bool.and_eq_true, decide_eq_true_eq, beq_iff_eq] at c2
          intro _ hd2
          have hb1 : bAt (a ++ r) (pos + 1) = bAt a (pos + 1) := bAt_left a r _ (by omega)
          have hb2 : bAt (a ++ r) (pos + 2) = bAt a (pos + 2) := bAt_left a r _ (by omega)
          rw [hb1, hb2, if_neg (by simp; omega), if_pos (by simp [c2]; omega)]
        · rw [if_neg c2]
          by_cases c3 : (bAt a pos / 8 == 30 && (decide (pos + 1 < a.size) && bAt a (pos + 1) / 64 == 2) && (decide (pos + 2 < a.size) && bAt a (pos + 2) / 64 == 2) && (decide (pos + 3 < a.size) && bAt a (pos + 3) / 64 == 2)) = true
          · rw [if_pos c3]
            simp only [Bool.and_eq_true, decide_eq_true_eq, beq_iff_eq] at c3
            intro _ hd2
            have hb1 : bAt (a ++ r) (pos + 1) = bAt a (pos + 1) := bAt_left a r _ (by omega)
            have hb2 : bAt (a ++ r) (pos + 2) = bAt a (pos + 2) := bAt_left a r _ (by omega)
            have hb3 : bAt (a ++ r) (pos + 3) = bAt a (pos + 3) := bAt_left a r _ (by omega)
            rw [hb1, hb2, hb3, if_neg (by simp; omega), if_neg (by simp; omega), if_pos (by simp [c3]; omega)]
          · rw [if_neg c3]
            intro h; exact absurd rfl h

theorem oneF_right (a r : ByteArray) (i : Nat) : oneF (a ++ r) (a.size + i) = oneF r i := by unfold oneF; rw [decode_right]

theorem Lf_right (a r : ByteArray) (b : Nat) : ∀ j, Lf (a ++ r) b (a.size + j) = Lf r b j := by
  induction b with
  | zero => intro j; rfl
  | succ b ih =>
    intro j
    by_cases hj : j < r.size
    · rw [Lf_cons _ _ _ (by rw [app_size]; omega), Lf_cons _ _ _ hj, oneF_right, decode_right, Nat.add_assoc, ih]
    · rw [Lf_end _ _ _ (by rw [app_size]; omega), Lf_end _ _ _ hj]

theorem Lf_left (a r : ByteArray) (b : Nat) : ∀ pos, pos ≤ a.size → a.size ≤ pos + b → (Lf a b pos).all letterB = true →
    ∀ b', (a ++ r).size ≤ pos + b' → Lf (a ++ r) b' pos = Lf a b pos ++ Lf (a ++ r) b' a.size := by
  induction b with
  | zero => intro pos h1 h2 _ b' _; rw [show pos = a.size by omega]; rfl
  | succ b ih =>
    intro pos h1 h2 ha b' h3
    by_cases hp : pos < a.size
    · have hsz := app_size a r
      rw [Lf_cons a b pos hp] at ha ⊢
      simp only [List.all_cons, Bool.and_eq_true] at ha
      have hd := decode_left a r pos hp ha.1
      have hw := width_pos a pos hp
      have hwl : pos + (Utf8.decode a pos).2 ≤ a.size := by
        by_cases h1 : (Utf8.decode a pos).2 = 1
        · omega
        · exact (decode_wide a pos hp (by omega)).1
      obtain ⟨c, rfl⟩ : ∃ c, b' = c + 1 := ⟨b' - 1, by omega⟩
      have ho : oneF (a ++ r) pos = oneF a pos := by unfold oneF; rw [hd]
      rw [Lf_cons (a ++ r) c pos (by omega), ho, hd, ih _ hwl (by omega) ha.2 c (by omega), Lf_fuel (a ++ r) c (c + 1) a.size (by omega) (by omega)]
      rfl
    · rw [show pos = a.size by omega, Lf_end a _ _ (by omega)]
      rfl

theorem LL_app (a r : ByteArray) (ha : (LL a).all letterB = true) : LL (a ++ r) = LL a ++ LL r := by
  have hsz := app_size a r
  unfold LL at *
  rw [Lf_left a r a.size 0 (by omega) (by omega) ha (a ++ r).size (by omega)]
  congr 1
  have := Lf_right a r (a ++ r).size 0
  rw [Nat.add_zero] at this
  rw [this, Lf_fuel r _ r.size 0 (by omega) (by omega)]

def sp : ByteArray := ⟨#[32]⟩
theorem LL_sp : LL sp = [32] := by decide +kernel
theorem bAt_sp : bAt sp 0 = 32 := by decide +kernel

theorem labB_parts (a : ByteArray) (h : labB a = true) : (LL a).all letterB = true ∧ 0 < (LL a).length ∧ (LL a).length ≤ 24 ∧ bAt a 0 ≠ 32 ∧ bAt a (a.size - 1) ≠ 32 ∧ 0 < a.size := by
  unfold labB at h
  simp only [Bool.and_eq_true, decide_eq_true_eq] at h
  exact ⟨h.1, h.2.1.1, h.2.1.2, h.2.2.1, h.2.2.2, (LL_pos a).1 h.2.1.1⟩

theorem joins_len (a b : ByteArray) (ha : labB a = true) : (LL (a ++ sp ++ b)).length = (LL a).length + (LL b).length + 1 := by
  obtain ⟨h1, h2, h3, h4, h5, h6⟩ := labB_parts a ha
  have e1 : LL (a ++ sp) = LL a ++ [32] := by rw [LL_app a sp h1, LL_sp]
  have e2 : (LL (a ++ sp)).all letterB = true := by rw [e1, List.all_append, h1]; decide
  rw [LL_app (a ++ sp) b e2, e1]
  simp
  omega

theorem joins_lab (a b : ByteArray) (ha : labB a = true) (hb : labB b = true) : labB (a ++ sp ++ b) = decide ((LL a).length + (LL b).length + 1 ≤ 24) := by
  have hl := joins_len a b ha
  obtain ⟨h1, h2, h3, h4, h5, h6⟩ := labB_parts a ha
  obtain ⟨g1, g2, g3, g4, g5, g6⟩ := labB_parts b hb
  have e1 : LL (a ++ sp) = LL a ++ [32] := by rw [LL_app a sp h1, LL_sp]
  have e2 : (LL (a ++ sp)).all letterB = true := by rw [e1, List.all_append, h1]; decide
  have e3 : (LL (a ++ sp ++ b)).all letterB = true := by rw [LL_app (a ++ sp) b e2, List.all_append, e2, g1]; rfl
  have s1 := app_size a sp
  have s2 := app_size (a ++ sp) b
  have b0 : bAt (a ++ sp ++ b) 0 = bAt a 0 := by rw [bAt_left _ _ _ (by omega), bAt_left _ _ _ h6]
  have bl : bAt (a ++ sp ++ b) ((a ++ sp ++ b).size - 1) = bAt b (b.size - 1) := by
    rw [show (a ++ sp ++ b).size - 1 = (a ++ sp).size + (b.size - 1) by omega, bAt_right]
  unfold labB
  rw [e3, hl, b0, bl, decide_eq_true h4, decide_eq_true g5, Bool.eq_iff_iff]
  simp

theorem joins_end (a : ByteArray) (ha : labB a = true) : labB (a ++ sp) = false := by
  obtain ⟨h1, h2, h3, h4, h5, h6⟩ := labB_parts a ha
  have s1 := app_size a sp
  have hs : sp.size = 1 := rfl
  have bl : bAt (a ++ sp) ((a ++ sp).size - 1) = 32 := by
    rw [show (a ++ sp).size - 1 = a.size + 0 by omega, bAt_right, bAt_sp]
  unfold labB
  rw [bl]; simp

theorem joins_begin (a : ByteArray) : labB (sp ++ a) = false := by
  have b0 : bAt (sp ++ a) 0 = 32 := by rw [bAt_left _ _ _ (by decide), bAt_sp]
  unfold labB
  rw [b0]; simp
end Go.Proofs.Ytmacmjbjccfgaaa
