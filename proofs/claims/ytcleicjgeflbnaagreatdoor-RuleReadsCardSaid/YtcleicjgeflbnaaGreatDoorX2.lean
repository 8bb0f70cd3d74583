/- Texts tell rules apart: plain laws. Conditions: both rules may be; a stamp without signs tells its minute. -/
import Derived.Test.YtcleicjgeflbnaaGreatDoorV4
namespace Go.Proofs.YtcleicjgeflbnaaGreatDoor
open Go.RowKit
set_option linter.all false

theorem splitc_clean (d : UInt8) : ∀ x : List UInt8, d ∉ x → splitc d x = [x]
  | [], _ => rfl
  | b :: r, h => by
    have hb : ¬ b = d := fun e => h (by simp [e])
    rw [splitc, if_neg hb, splitc_clean d r (fun hm => h (List.mem_cons_of_mem _ hm))]
    rfl
theorem splitc_cons (d : UInt8) (r : List UInt8) : ∀ x : List UInt8, d ∉ x → splitc d (x ++ d :: r) = x :: splitc d r
  | [], _ => by rw [List.nil_append, splitc, if_pos rfl]
  | b :: t, h => by
    have hb : ¬ b = d := fun e => h (by simp [e])
    rw [List.cons_append, splitc, if_neg hb, splitc_cons d r t (fun hm => h (List.mem_cons_of_mem _ hm))]
    rfl
theorem join_two (x y : List UInt8) (r : List (List UInt8)) (d : UInt8) : Lib.join (x :: y :: r) [d] = x ++ d :: Lib.join (y :: r) [d] := by
  rw [Lib.join_cons, Lib.join_cons]
  simp [Lib.joinTail]
theorem split_join (d : UInt8) : ∀ a : List (List UInt8), a ≠ [] → (∀ x ∈ a, d ∉ x) → splitc d (Lib.join a [d]) = a
  | [], h, _ => absurd rfl h
  | [x], _, h => by rw [Lib.join_one]; exact splitc_clean d x (h x (by simp))
  | x :: y :: r, _, h => by
    rw [join_two, splitc_cons d _ x (h x (by simp)), split_join d (y :: r) (by simp) (fun z hz => h z (List.mem_cons_of_mem _ hz))]
theorem join_inj {d : UInt8} {a b : List (List UInt8)} (ha : a ≠ []) (hb : b ≠ []) (h1 : ∀ x ∈ a, d ∉ x) (h2 : ∀ x ∈ b, d ∉ x) (h : Lib.join a [d] = Lib.join b [d]) : a = b := by
  rw [← split_join d a ha h1, h, split_join d b hb h2]

/-! ### Parts under their keys -/
def apart : List UInt8 → List UInt8 → Bool
  | a :: r, b :: s => a != b || apart r s
  | _, _ => false
theorem apart_pre : ∀ {K K2 v t : List UInt8}, apart K K2 = true → K ++ t ≠ K2 ++ v
  | [], _, _, _, h => by simp [apart] at h
  | _ :: _, [], _, _, h => by simp [apart] at h
  | a :: r, b :: s, v, t, h => by
    intro e
    simp only [List.cons_append, List.cons.injEq] at e
    simp only [apart, Bool.or_eq_true, bne_iff_ne] at h
    rcases h with h | h
    · exact h e.1
    · exact apart_pre h e.2
def okPart (p : List UInt8 × List (List UInt8)) : Prop := p.2 = [] ∨ ∃ v, p.2 = [p.1 ++ v]
theorem flat_inj : ∀ (l l' : List (List UInt8 × List (List UInt8))), l.map (·.1) = l'.map (·.1) → (∀ p ∈ l, okPart p) → (∀ p ∈ l', okPart p) → (l.map (·.1)).Pairwise (fun K K2 => apart K K2 = true) →
    l.flatMap (·.2) = l'.flatMap (·.2) → l = l'
  | [], [], _, _, _, _, _ => rfl
  | [], _ :: _, h, _, _, _, _ => by simp at h
  | _ :: _, [], h, _, _, _, _ => by simp at h
  | (K, A) :: r, (K', A') :: r', hk, h1, h2, hp, h => by
    simp only [List.map_cons, List.cons.injEq] at hk
    obtain ⟨rfl, hk⟩ := hk
    simp only [List.map_cons, List.pairwise_cons] at hp
    have o1 : okPart (K, A) := h1 _ (List.mem_cons_self ..)
    have o2 : okPart (K, A') := h2 _ (List.mem_cons_self ..)
    have n1 : ∀ y ∈ r.flatMap (·.2), ∀ v, y ≠ K ++ v := by
      intro y hy v e
      obtain ⟨p, hpm, hyp⟩ := List.mem_flatMap.1 hy
      rcases h1 p (List.mem_cons_of_mem _ hpm) with e2 | ⟨v2, e2⟩
      · rw [e2] at hyp; simp at hyp
      · rw [e2] at hyp
        simp at hyp
        exact apart_pre (hp.1 p.1 (List.mem_map_of_mem hpm)) (e.symm.trans hyp)
    have n2 : ∀ y ∈ r'.flatMap (·.2), ∀ v, y ≠ K ++ v := by
      intro y hy v e
      obtain ⟨p, hpm, hyp⟩ := List.mem_flatMap.1 hy
      rcases h2 p (List.mem_cons_of_mem _ hpm) with e2 | ⟨v2, e2⟩
      · rw [e2] at hyp; simp at hyp
      · rw [e2] at hyp
        simp at hyp
        exact apart_pre (hp.1 p.1 (by rw [hk]; exact List.mem_map_of_mem hpm)) (e.symm.trans hyp)
    simp only [List.flatMap_cons] at h
    have hAR : A = A' ∧ r.flatMap (·.2) = r'.flatMap (·.2) := by
      rcases o1 with e1 | ⟨v, e1⟩ <;> rcases o2 with e2 | ⟨v', e2⟩ <;> simp only at e1 e2 <;> subst e1 <;> subst e2
      · exact ⟨rfl, by simpa using h⟩
      · simp only [List.nil_append, List.singleton_append] at h
        exact absurd rfl (n1 _ (by rw [h]; exact List.mem_cons_self ..) v')
      · simp only [List.nil_append, List.singleton_append] at h
        exact absurd rfl (n2 _ (by rw [← h]; exact List.mem_cons_self ..) v)
      · simp only [List.singleton_append, List.cons.injEq] at h
        exact ⟨by rw [h.1], h.2⟩
    rw [hAR.1, flat_inj r r' hk (fun p hp => h1 p (List.mem_cons_of_mem _ hp)) (fun p hp => h2 p (List.mem_cons_of_mem _ hp)) hp.2 hAR.2]
def keyed (T : Int → List UInt8) (r : RuleD) : List (List UInt8 × List (List UInt8)) :=
  [(kFREQ, [kFREQ ++ freqT r.freq]), (kINTERVAL, optP (r.interval ≠ 1) (kINTERVAL ++ Lib.itoa r.interval)), (kCOUNT, optP (0 < r.count) (kCOUNT ++ Lib.itoa r.count)), (kUNTIL, optP (0 ≤ r.until_) (kUNTIL ++ T r.until_)),
    (kBYMONTH, rowP kBYMONTH Lib.itoa r.byMonth), (kBYMONTHDAY, rowP kBYMONTHDAY Lib.itoa r.byMonthDay), (kBYDAY, rowP kBYDAY dayNT r.byDay), (kBYSETPOS, rowP kBYSETPOS Lib.itoa r.bySetPos), (kWKST, optP (0 < r.start) (kWKST ++ dayT r.start))]
theorem keyed_flat (T : Int → List UInt8) (r : RuleD) : (keyed T r).flatMap (·.2) = partsR T r := by
  unfold keyed partsR
  simp only [List.flatMap_cons, List.flatMap_nil, List.append_nil, List.append_assoc]
theorem ok_opt (c : Prop) [Decidable c] (k x : List UInt8) : okPart (k, optP c (k ++ x)) := by
  unfold okPart optP; split
  · exact .inr ⟨x, rfl⟩
  · exact .inl rfl
theorem ok_row {α : Type} (k : List UInt8) (f : α → List UInt8) (l : List α) : okPart (k, rowP k f l) := by
  unfold okPart rowP; split
  · exact .inl rfl
  · exact .inr ⟨_, rfl⟩
theorem keyed_ok (T : Int → List UInt8) (r : RuleD) : ∀ p ∈ keyed T r, okPart p := by
  intro p hp
  simp only [keyed, List.mem_cons, List.not_mem_nil, or_false] at hp
  rcases hp with rfl | rfl | rfl | rfl | rfl | rfl | rfl | rfl | rfl
  · exact .inr ⟨_, rfl⟩
  · exact ok_opt _ _ _
  · exact ok_opt _ _ _
  · exact ok_opt _ _ _
  · exact ok_row _ _ _
  · exact ok_row _ _ _
  · exact ok_row _ _ _
  · exact ok_row _ _ _
  · exact ok_opt _ _ _
theorem keyed_inj (T : Int → List UInt8) (a b : RuleD) (h : partsR T a = partsR T b) : keyed T a = keyed T b :=
  flat_inj _ _ rfl (keyed_ok T a) (keyed_ok T b) (by show [kFREQ, kINTERVAL, kCOUNT, kUNTIL, kBYMONTH, kBYMONTHDAY, kBYDAY, kBYSETPOS, kWKST].Pairwise _; decide) (by rw [keyed_flat, keyed_flat, h])

/-! ### What stands in the parts -/
theorem decDigits_rec (u : Nat) : Lib.decDigits u = if u < 10 then [UInt8.ofNat (48 + u)] else Lib.decDigits (u / 10) ++ [UInt8.ofNat (48 + u % 10)] := by
  rw [Lib.decDigits]; split <;> rfl
theorem dec_dig (u : Nat) : ∀ b ∈ Lib.decDigits u, 48 ≤ b.toNat ∧ b.toNat ≤ 57 := by
  induction u using Nat.strongRecOn with
  | _ u ih =>
    intro b hb
    rw [decDigits_rec] at hb
    split at hb
    · rw [List.mem_singleton.1 hb, UInt8.toNat_ofNat']; omega
    · rcases List.mem_append.1 hb with hb | hb
      · exact ih (u / 10) (by omega) b hb
      · rw [List.mem_singleton.1 hb, UInt8.toNat_ofNat']; omega
def valD (l : List UInt8) : Nat := l.foldl (fun a b => a * 10 + (b.toNat - 48)) 0
theorem valD_snoc (l : List UInt8) (b : UInt8) : valD (l ++ [b]) = valD l * 10 + (b.toNat - 48) := by simp [valD]
theorem valD_dec (u : Nat) : valD (Lib.decDigits u) = u := by
  induction u using Nat.strongRecOn with
  | _ u ih =>
    rw [decDigits_rec]
    split
    · simp [valD]; omega
    · rw [valD_snoc, ih (u / 10) (by omega), UInt8.toNat_ofNat']; omega
theorem dec_ne (u : Nat) : Lib.decDigits u ≠ [] := by rw [decDigits_rec]; split <;> simp
theorem itoa_dig (n : Int) : ∀ b ∈ Lib.itoa n, b = 45 ∨ (48 ≤ b.toNat ∧ b.toNat ≤ 57) := by
  intro b hb
  unfold Lib.itoa at hb
  split at hb
  · rcases List.mem_cons.1 hb with rfl | hb
    · exact .inl rfl
    · exact .inr (dec_dig _ b hb)
  · exact .inr (dec_dig _ b hb)
theorem itoa_ne (n : Int) : Lib.itoa n ≠ [] := by unfold Lib.itoa; split; · simp
                                                  · exact dec_ne _
theorem itoa_inj {a b : Int} (h : Lib.itoa a = Lib.itoa b) : a = b := by
  have no : ∀ (u : Nat) (t : List UInt8), Lib.decDigits u ≠ 45 :: t := fun u t e => by
    have := dec_dig u 45 (by rw [e]; simp)
    simp at this
  unfold Lib.itoa at h
  split at h <;> split at h
  · simp only [List.cons.injEq, true_and] at h
    have := congrArg valD h
    rw [valD_dec, valD_dec] at this
    omega
  · exact absurd h.symm (no _ _)
  · exact absurd h (no _ _)
  · have := congrArg valD h
    rw [valD_dec, valD_dec] at this
    omega
theorem itoa_no (n : Int) (d : UInt8) (hd : d = 44 ∨ d = 59) : d ∉ Lib.itoa n := fun hm => by
  have := itoa_dig n d hm
  rcases hd with rfl | rfl <;> simp at this
theorem opt_inj {c c' : Prop} [Decidable c] [Decidable c'] {k x x' : List UInt8} (h : optP c (k ++ x) = optP c' (k ++ x')) : (c ↔ c') ∧ (c → x = x') := by
  unfold optP at h
  split at h <;> split at h
  · rename_i h1 h2
    exact ⟨⟨fun _ => h2, fun _ => h1⟩, fun _ => by simpa using h⟩
  · simp at h
  · simp at h
  · rename_i h1 h2
    exact ⟨⟨fun e => absurd e h1, fun e => absurd e h2⟩, fun e => absurd e h1⟩
theorem map_inj_on {α : Type} (f : α → List UInt8) (p : α → Prop) (hf : ∀ x y, p x → p y → f x = f y → x = y) : ∀ l l' : List α, (∀ x ∈ l, p x) → (∀ x ∈ l', p x) → l.map f = l'.map f → l = l'
  | [], [], _, _, _ => rfl
  | [], _ :: _, _, _, h => by simp at h
  | _ :: _, [], _, _, h => by simp at h
  | x :: r, y :: s, h1, h2, h => by
    simp only [List.map_cons, List.cons.injEq] at h
    rw [hf x y (h1 x (by simp)) (h2 y (by simp)) h.1, map_inj_on f p hf r s (fun z hz => h1 z (List.mem_cons_of_mem _ hz)) (fun z hz => h2 z (List.mem_cons_of_mem _ hz)) h.2]
theorem row_inj {α : Type} {k : List UInt8} (f : α → List UInt8) (p : α → Prop) (hf : ∀ x y, p x → p y → f x = f y → x = y) (h44 : ∀ x, p x → (44 : UInt8) ∉ f x) {l l' : List α} (h1 : ∀ x ∈ l, p x) (h2 : ∀ x ∈ l', p x)
    (h : rowP k f l = rowP k f l') : l = l' := by
  unfold rowP at h
  split at h <;> split at h
  · rename_i e1 e2
    rw [List.eq_nil_of_length_eq_zero e1, List.eq_nil_of_length_eq_zero e2]
  · simp at h
  · simp at h
  · rename_i e1 e2
    have h' : Lib.join (l.map f) [44] = Lib.join (l'.map f) [44] := by simpa using h
    have hj := join_inj (d := 44) (a := l.map f) (b := l'.map f) (fun e => e1 (by have := congrArg List.length e; simpa using this)) (fun e => e2 (by have := congrArg List.length e; simpa using this))
      (fun x hx => by obtain ⟨y, hy, rfl⟩ := List.mem_map.1 hx; exact h44 y (h1 y hy)) (fun x hx => by obtain ⟨y, hy, rfl⟩ := List.mem_map.1 hx; exact h44 y (h2 y hy)) h'
    exact map_inj_on f p hf l l' h1 h2 hj
theorem daysL_inj : ∀ a b : Fin 7, daysL.getD a.val [] = daysL.getD b.val [] → a = b := by decide
theorem freqsL_inj : ∀ a b : Fin 4, freqsL.getD a.val [] = freqsL.getD b.val [] → a = b := by decide
theorem dayT_inj {a b : Int} (ha : 0 ≤ a ∧ a ≤ 6) (hb : 0 ≤ b ∧ b ≤ 6) (h : dayT a = dayT b) : a = b := by
  have := daysL_inj ⟨a.toNat, by omega⟩ ⟨b.toNat, by omega⟩ h
  have := congrArg Fin.val this
  simp only at this
  omega
theorem freqT_inj {a b : Int} (ha : 1 ≤ a ∧ a ≤ 4) (hb : 1 ≤ b ∧ b ≤ 4) (h : freqT a = freqT b) : a = b := by
  have := freqsL_inj ⟨(a - 1).toNat, by omega⟩ ⟨(b - 1).toNat, by omega⟩ h
  have := congrArg Fin.val this
  simp only at this
  omega
theorem dayT_two {a : Int} (ha : 0 ≤ a ∧ a ≤ 6) : (dayT a).length = 2 ∧ (44 : UInt8) ∉ dayT a ∧ (59 : UInt8) ∉ dayT a := by
  have h : ∀ k : Fin 7, (daysL.getD k.val []).length = 2 ∧ (44 : UInt8) ∉ daysL.getD k.val [] ∧ (59 : UInt8) ∉ daysL.getD k.val [] := by decide
  exact h ⟨a.toNat, by omega⟩
theorem freqT_no {a : Int} (ha : 1 ≤ a ∧ a ≤ 4) : (59 : UInt8) ∉ freqT a := by
  have h : ∀ k : Fin 4, (59 : UInt8) ∉ freqsL.getD k.val [] := by decide
  exact h ⟨(a - 1).toNat, by omega⟩
theorem dayNT_eq (d : DayND) : dayNT d = (if d.n = 0 then [] else Lib.itoa d.n) ++ dayT d.day := by unfold dayNT; split <;> simp
theorem dayNT_inj {a b : DayND} (ha : 0 ≤ a.day ∧ a.day ≤ 6) (hb : 0 ≤ b.day ∧ b.day ≤ 6) (h : dayNT a = dayNT b) : a = b := by
  rw [dayNT_eq, dayNT_eq] at h
  have h2 := List.append_inj' h (by rw [(dayT_two ha).1, (dayT_two hb).1])
  have hd := dayT_inj ha hb h2.2
  have hn : a.n = b.n := by
    have h3 := h2.1
    by_cases e1 : a.n = 0 <;> by_cases e2 : b.n = 0
    · rw [e1, e2]
    · rw [if_pos e1, if_neg e2] at h3; exact absurd h3.symm (itoa_ne _)
    · rw [if_neg e1, if_pos e2] at h3; exact absurd h3 (itoa_ne _)
    · rw [if_neg e1, if_neg e2] at h3; exact itoa_inj h3
  cases a; cases b
  simp only at hd hn
  rw [hd, hn]
theorem dayNT_no {a : DayND} (ha : 0 ≤ a.day ∧ a.day ≤ 6) (d : UInt8) (hd : d = 44 ∨ d = 59) : d ∉ dayNT a := by
  rw [dayNT_eq]
  intro h
  rcases List.mem_append.1 h with h | h
  · split at h
    · simp at h
    · exact itoa_no _ d hd h
  · rcases hd with rfl | rfl
    · exact (dayT_two ha).2.1 h
    · exact (dayT_two ha).2.2 h
end Go.Proofs.YtcleicjgeflbnaaGreatDoor
