/- A text tells its rule: plain law. Conditions: both rules may be; a stamp without signs tells its minute. A stamp without signs tells its minute: plain law. Conditions: each theorem's own. -/
import Derived.Test.YtcleicjgeflbnaaGreatDoorX2
import Derived.Test.YtcleicjgeflbnaaGreatDoorA4
namespace Go.Proofs.YtcleicjgeflbnaaGreatDoor
open Go.RowKit
set_option linter.all false

theorem join_no {d s : UInt8} (hs : d ≠ s) : ∀ l : List (List UInt8), (∀ x ∈ l, d ∉ x) → d ∉ Lib.join l [s]
  | [], _ => by simp [Lib.join_nil]
  | [x], h => by rw [Lib.join_one]; exact h x (by simp)
  | x :: y :: r, h => by
    rw [join_two]
    intro hm
    rcases List.mem_append.1 hm with hm | hm
    · exact h x (by simp) hm
    · rcases List.mem_cons.1 hm with hm | hm
      · exact hs hm
      · exact join_no hs (y :: r) (fun z hz => h z (List.mem_cons_of_mem _ hz)) hm
theorem u8_no (k : Nat) (n : Int) : (59 : UInt8) ∉ u8l (digs n k) := fun h => by have := u8_dig k n 59 h; simp at this
theorem shortT_no (n : Int) : (59 : UInt8) ∉ shortT n := by
  rw [shortT_eq]
  simp only [List.mem_append, u8_no, List.mem_singleton, false_or, or_false]
  decide
theorem parts_no {r : RuleD} (hm : mayR r) : ∀ x ∈ partsR shortT r, (59 : UInt8) ∉ x := by
  obtain ⟨p1, p2, p3, p4, p5, p6, p7, p8, p9, p10, p11, p12, p13⟩ := hm
  intro x hx
  rw [← keyed_flat] at hx
  obtain ⟨p, hp, hxp⟩ := List.mem_flatMap.1 hx
  have ko : ∀ (c : Prop) [Decidable c] (k v : List UInt8), (59 : UInt8) ∉ k → (59 : UInt8) ∉ v → x ∈ optP c (k ++ v) → (59 : UInt8) ∉ x := by
    intro c _ k v h1 h2 h3
    unfold optP at h3
    split at h3
    · rw [List.mem_singleton.1 h3, List.mem_append]; exact fun e => e.elim h1 h2
    · simp at h3
  have kr : ∀ {α : Type} (k : List UInt8) (f : α → List UInt8) (l : List α), (59 : UInt8) ∉ k → (∀ y ∈ l, (59 : UInt8) ∉ f y) → x ∈ rowP k f l → (59 : UInt8) ∉ x := by
    intro α k f l h1 h2 h3
    unfold rowP at h3
    split at h3
    · simp at h3
    · rw [List.mem_singleton.1 h3, List.mem_append]
      exact fun e => e.elim h1 (join_no (by decide) _ (fun z hz => by obtain ⟨y, hy, rfl⟩ := List.mem_map.1 hz; exact h2 y hy))
  simp only [keyed, List.mem_cons, List.not_mem_nil, or_false] at hp
  rcases hp with rfl | rfl | rfl | rfl | rfl | rfl | rfl | rfl | rfl
  · rw [List.mem_singleton.1 hxp, List.mem_append]
    exact fun e => e.elim (by decide) (freqT_no ⟨p1, p2⟩)
  · exact ko _ _ _ (by decide) (itoa_no _ _ (.inr rfl)) hxp
  · exact ko _ _ _ (by decide) (itoa_no _ _ (.inr rfl)) hxp
  · exact ko _ _ _ (by decide) (shortT_no _) hxp
  · exact kr _ _ _ (by decide) (fun y _ => itoa_no _ _ (.inr rfl)) hxp
  · exact kr _ _ _ (by decide) (fun y _ => itoa_no _ _ (.inr rfl)) hxp
  · exact kr _ _ _ (by decide) (fun y hy => dayNT_no ⟨(p9.1 y hy).1, (p9.1 y hy).2.1⟩ _ (.inr rfl)) hxp
  · exact kr _ _ _ (by decide) (fun y _ => itoa_no _ _ (.inr rfl)) hxp
  · exact ko _ _ _ (by decide) (dayT_two ⟨p12, p13⟩).2.2 hxp
theorem text_inj {a b : RuleD} (ha : mayR a) (hb : mayR b) (hT : ∀ m n : Int, 0 ≤ m → m < 158310720 → 0 ≤ n → n < 158310720 → shortT m = shortT n → m = n) (h : textR shortT a = textR shortT b) : a = b := by
  have ne : ∀ r : RuleD, partsR shortT r ≠ [] := fun r e => by rw [← keyed_flat] at e; simp [keyed] at e
  have hp : partsR shortT a = partsR shortT b := join_inj (ne a) (ne b) (parts_no ha) (parts_no hb) h
  have hk := keyed_inj shortT a b hp
  obtain ⟨p1, p2, p3, p4, p5, p6, p7, p8, p9, p10, p11, p12, p13⟩ := ha
  obtain ⟨q1, q2, q3, q4, q5, q6, q7, q8, q9, q10, q11, q12, q13⟩ := hb
  unfold endsMay at p5 q5
  simp only [keyed, List.cons.injEq, Prod.mk.injEq, true_and, and_true] at hk
  obtain ⟨k1, k2, k3, k4, k5, k6, k7, k8, k9⟩ := hk
  have f1 : a.freq = b.freq := freqT_inj ⟨p1, p2⟩ ⟨q1, q2⟩ (List.append_cancel_left k1)
  have f2 : a.interval = b.interval := by
    obtain ⟨e1, e2⟩ := opt_inj k2
    by_cases c : a.interval = 1
    · have : ¬ b.interval ≠ 1 := fun e => (e1.2 e) c
      omega
    · exact itoa_inj (e2 c)
  have f3 : a.count = b.count := by
    obtain ⟨e1, e2⟩ := opt_inj k3
    by_cases c : 0 < a.count
    · exact itoa_inj (e2 c)
    · have : ¬ 0 < b.count := fun e => c (e1.2 e)
      omega
  have f4 : a.until_ = b.until_ := by
    obtain ⟨e1, e2⟩ := opt_inj k4
    by_cases c : 0 ≤ a.until_
    · have c2 := e1.1 c
      exact hT _ _ c (by omega) c2 (by omega) (e2 c)
    · have : ¬ 0 ≤ b.until_ := fun e => c (e1.2 e)
      omega
  have ri : ∀ {k : List UInt8} {l l' : List Int}, rowP k Lib.itoa l = rowP k Lib.itoa l' → l = l' := fun hh => row_inj Lib.itoa (fun _ => True) (fun x y _ _ e => itoa_inj e) (fun x _ => itoa_no x 44 (.inl rfl)) (fun _ _ => trivial) (fun _ _ => trivial) hh
  have f5 := ri k5
  have f6 := ri k6
  have f7 : a.byDay = b.byDay := row_inj dayNT (fun d => 0 ≤ d.day ∧ d.day ≤ 6) (fun x y hx hy e => dayNT_inj hx hy e) (fun x hx => dayNT_no hx 44 (.inl rfl)) (fun x hx => ⟨(p9.1 x hx).1, (p9.1 x hx).2.1⟩) (fun x hx => ⟨(q9.1 x hx).1, (q9.1 x hx).2.1⟩) k7
  have f8 := ri k8
  have f9 : a.start = b.start := by
    obtain ⟨e1, e2⟩ := opt_inj k9
    by_cases c : 0 < a.start
    · exact dayT_inj ⟨p12, p13⟩ ⟨q12, q13⟩ (e2 c)
    · have : ¬ 0 < b.start := fun e => c (e1.2 e)
      omega
  cases a; cases b
  simp only at f1 f2 f3 f4 f5 f6 f7 f8 f9
  rw [f1, f2, f3, f4, f5, f6, f7, f8, f9]
end Go.Proofs.YtcleicjgeflbnaaGreatDoor
namespace Go.Proofs.YtcleicjgeflbnaaGreatDoor
open Go.RowKit
set_option linter.all false

theorem u8l_inj : ∀ l l' : List Int, (∀ c ∈ l, 48 ≤ c ∧ c ≤ 57) → (∀ c ∈ l', 48 ≤ c ∧ c ≤ 57) → u8l l = u8l l' → l = l'
  | [], [], _, _, _ => rfl
  | [], _ :: _, _, _, h => by simp [u8l] at h
  | _ :: _, [], _, _, h => by simp [u8l] at h
  | x :: r, y :: s, h1, h2, h => by
    rw [u8l_cons, u8l_cons] at h
    simp only [List.cons.injEq] at h
    have a := h1 x (by simp)
    have b := h2 y (by simp)
    have e := congrArg UInt8.toNat h.1
    rw [UInt8.toNat_ofNat', UInt8.toNat_ofNat'] at e
    have hxy : x = y := by omega
    rw [hxy, u8l_inj r s (fun z hz => h1 z (List.mem_cons_of_mem _ hz)) (fun z hz => h2 z (List.mem_cons_of_mem _ hz)) h.2]
theorem group {k : Nat} {a b : Int} {R R' : List UInt8} (h : u8l (digs a k) ++ R = u8l (digs b k) ++ R') : digs a k = digs b k ∧ R = R' := by
  have h2 := List.append_inj h (by rw [u8l_length, u8l_length, digs_length, digs_length])
  exact ⟨u8l_inj _ _ (digs_dig k a) (digs_dig k b) h2.1, h2.2⟩
theorem shortT_inj (m n : Int) (h0 : 0 ≤ m) (h1 : m < 158310720) (h2 : 0 ≤ n) (h3 : n < 158310720) (h : shortT m = shortT n) : m = n := by
  rw [shortT_eq, shortT_eq] at h
  obtain ⟨g1, h⟩ := group h
  obtain ⟨g2, h⟩ := group h
  obtain ⟨g3, h⟩ := group h
  have h := List.append_cancel_left h
  obtain ⟨g4, h⟩ := group h
  have g5 := u8l_inj _ _ (digs_dig _ _) (digs_dig _ _) h
  have e : stampText m = stampText n := by
    unfold stampText minText
    rw [g1, g2, g3, g4, g5]
  have l1 := stampText_ll m n ⟨h0, by omega⟩ ⟨h2, by omega⟩
  have l2 := stampText_ll n m ⟨h2, by omega⟩ ⟨h0, by omega⟩
  have l3 := stampText_ll n n ⟨h2, by omega⟩ ⟨h2, by omega⟩
  rw [e] at l1 l2
  have n1 : ¬ ll (stampText n) (stampText n) = true := fun hh => by have := l3.1 hh; omega
  have n2 : ¬ m < n := fun hh => n1 (l1.2 hh)
  have n3 : ¬ n < m := fun hh => n1 (l2.2 hh)
  omega
theorem textR_inj {a b : RuleD} (ha : mayR a) (hb : mayR b) (h : textR shortT a = textR shortT b) : a = b := text_inj ha hb shortT_inj h
end Go.Proofs.YtcleicjgeflbnaaGreatDoor
