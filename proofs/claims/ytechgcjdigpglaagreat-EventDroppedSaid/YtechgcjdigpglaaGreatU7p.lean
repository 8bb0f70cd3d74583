/- ref10: what the document's times are, day by day. Plain laws; conditions: each theorem's own. ref10: the days' loop, its states. Plain laws; conditions: each theorem's own. -/
import Derived.Test.YtechgcjdigpglaaGreatK2
namespace Go.Proofs.YtechgcjdigpglaaGreat
set_option linter.all false

/-- Is a time behind where a rule ends, so many given. -/
def overG (r : RuleD) (g : Int) (x : Int) : Prop := (0 ≤ r.until_ ∧ r.until_ < x) ∨ (0 < r.count ∧ g = r.count)
theorem cutG_snoc (r : RuleD) (x : Int) : ∀ (l : List Int) (g : Nat), (∀ y ∈ l, y < x) →
    cutG r g (l ++ [x]) = cutG r g l ++ (if dec (overG r ((g : Int) + (cutG r g l).length) x) = true then [] else [x])
  | [], g, _ => by
    show cutG r g [x] = [] ++ _
    rw [cutG, cutG]
    have e0 : (g : Int) + (([] : List Int).length : Nat) = (g : Int) := by simp
    rw [e0]
    by_cases h : overG r (g : Int) x
    · rw [if_pos (show (0 ≤ r.until_ ∧ r.until_ < x) ∨ (0 < r.count ∧ (g : Int) = r.count) from h), if_pos (dec_t h)]; rfl
    · rw [if_neg (show ¬ ((0 ≤ r.until_ ∧ r.until_ < x) ∨ (0 < r.count ∧ (g : Int) = r.count)) from h), if_neg (by rw [dec_f h]; decide), cutG]; rfl
  | y :: l, g, hy => by
    rw [List.cons_append, cutG, cutG]
    by_cases h : (0 ≤ r.until_ ∧ r.until_ < y) ∨ (0 < r.count ∧ (g : Int) = r.count)
    · rw [if_pos h, if_pos h]
      have : overG r ((g : Int) + (([] : List Int).length : Nat)) x := by
        rcases h with h | h
        · have := hy y (List.mem_cons_self ..); exact .inl (by omega)
        · exact .inr ⟨h.1, by simpa using h.2⟩
      rw [if_pos (dec_t this)]; rfl
    · rw [if_neg h, if_neg h, cutG_snoc r x l (g + 1) (fun z hz => hy z (List.mem_cons_of_mem _ hz)), List.cons_append]
      rw [show ((g + 1 : Nat) : Int) + ((cutG r (g + 1) l).length : Nat) = (g : Int) + ((y :: cutG r (g + 1) l).length : Nat) by simp; omega]
theorem cutG_append (r : RuleD) (m : List Int) : ∀ (l : List Int) (g : Nat), ∃ t, cutG r g (l ++ m) = cutG r g l ++ t ∧ t.Sublist m
  | [], g => ⟨cutG r g m, by rw [cutG]; rfl, cutG_sub r m g⟩
  | y :: l, g => by
    rw [List.cons_append, cutG, cutG]
    by_cases h : (0 ≤ r.until_ ∧ r.until_ < y) ∨ (0 < r.count ∧ (g : Int) = r.count)
    · rw [if_pos h, if_pos h]; exact ⟨[], rfl, List.nil_sublist _⟩
    · rw [if_neg h, if_neg h]
      obtain ⟨t, h1, h2⟩ := cutG_append r m l (g + 1)
      exact ⟨t, by rw [h1]; rfl, h2⟩

/-- What is given out of days, ahead of one. -/
noncomputable def outF (r : RuleD) (s mi below : Int) (l : List Int) : List Int :=
  (cutG r 0 ((l.filter fun n => decide (s ≤ n)).map fun n => n * 1440 + mi)).filter fun x => decide (x < below * 1440)
def skipP (r : RuleD) (s mi below : Int) (k : Nat) (n : Int) : Prop := n < s ∨ below ≤ n ∨ overG r (k : Int) (n * 1440 + mi)
theorem outF_step (r : RuleD) (s mi below : Int) (h0 : 0 ≤ mi) (h1 : mi < 1440) (l : List Int) (n : Int) (hl : ∀ y ∈ l, y < n) :
    outF r s mi below (l ++ [n]) = outF r s mi below l ++ (if dec (skipP r s mi below (outF r s mi below l).length n) = true then [] else [n * 1440 + mi]) := by
  unfold outF
  rw [List.filter_append]
  by_cases hs : s ≤ n
  · rw [show ([n].filter fun n => decide (s ≤ n)) = [n] by rw [List.filter_cons, if_pos (decide_eq_true hs)]; rfl, List.map_append]
    show List.filter _ (cutG r 0 (_ ++ [n * 1440 + mi])) = _
    rw [cutG_snoc r (n * 1440 + mi) _ 0 (fun y hy => by
      obtain ⟨z, hz, rfl⟩ := List.mem_map.1 hy
      have := hl z (List.mem_filter.1 hz).1; omega), List.filter_append]
    obtain ⟨c, hc⟩ : ∃ c, c = cutG r 0 ((l.filter fun n => decide (s ≤ n)).map fun n => n * 1440 + mi) := ⟨_, rfl⟩
    rw [← hc]
    have hcm : ∀ x ∈ c, x < n * 1440 + mi := fun x hx => by
      rw [hc] at hx
      obtain ⟨z, hz, rfl⟩ := List.mem_map.1 ((cutG_sub r _ 0).subset hx)
      have := hl z (List.mem_filter.1 hz).1; omega
    have e0 : ((0 : Nat) : Int) + (c.length : Nat) = (c.length : Int) := by omega
    rw [e0]
    congr 1
    by_cases hb : below ≤ n
    · rw [if_pos (show dec (skipP r s mi below (c.filter fun x => decide (x < below * 1440)).length n) = true from dec_t (.inr (.inl hb)))]
      by_cases ho : dec (overG r (c.length : Int) (n * 1440 + mi)) = true
      · rw [if_pos ho]; rfl
      · rw [if_neg ho, List.filter_cons, if_neg (by simp; omega)]; rfl
    · have e : c.filter (fun x => decide (x < below * 1440)) = c := List.filter_eq_self.2 fun x hx => by have := hcm x hx; simp; omega
      rw [e]
      by_cases ho : overG r (c.length : Int) (n * 1440 + mi)
      · rw [if_pos (dec_t ho), if_pos (show dec (skipP r s mi below c.length n) = true from dec_t (.inr (.inr ho)))]; rfl
      · have hk : ¬ skipP r s mi below c.length n := fun h => h.elim (fun h => absurd h (by omega)) fun h => h.elim hb ho
        rw [if_neg (by rw [dec_f ho]; decide), if_neg (by rw [dec_f hk]; decide)]
        rw [List.filter_cons, if_pos (by simp; omega)]; rfl
  · rw [show ([n].filter fun n => decide (s ≤ n)) = [] by rw [List.filter_cons, if_neg (by simpa using hs)]; rfl, List.append_nil, if_pos (dec_t (.inl (by omega))), List.append_nil]

theorem mem_candF {r : RuleD} {s : Int} (hs0 : 0 ≤ s) (hs1 : s < 109938) (hi : 1 ≤ r.interval) {n : Int} : ∀ (f k : Nat),
    n ∈ candF r s k f ↔ ∃ j : Nat, k ≤ j ∧ j < k + f ∧ moreP r s ((j : Int) * r.interval) ∧ s ≤ n ∧ n ∈ placesF r (periodF r s ((j : Int) * r.interval))
  | 0, k => by
    rw [candF]
    constructor
    · intro h; cases h
    · rintro ⟨j, h1, h2, _⟩; omega
  | f + 1, k => by
    rw [candF]
    by_cases hm : moreP r s ((k : Int) * r.interval)
    · rw [if_pos (dec_t hm), List.mem_append, mem_candF hs0 hs1 hi f (k + 1), List.mem_filter, decide_eq_true_eq]
      constructor
      · rintro (⟨h1, h2⟩ | ⟨j, h1, h2, h3⟩)
        · exact ⟨k, Nat.le_refl _, by omega, hm, h2, h1⟩
        · exact ⟨j, by omega, by omega, h3⟩
      · rintro ⟨j, h1, h2, h3, h4, h5⟩
        by_cases e : j = k
        · subst e; exact .inl ⟨h5, h4⟩
        · exact .inr ⟨j, by omega, by omega, h3, h4, h5⟩
    · rw [if_neg (by rw [dec_f hm]; decide)]
      constructor
      · intro h; cases h
      · rintro ⟨j, h1, h2, h3, _⟩
        refine absurd (moreP_mono ?_ h3) hm
        exact Int.mul_le_mul_of_nonneg_right (by omega) (by omega)

section
variable {r : RuleD} {s : Int}
/-- The days kept of a period. -/
noncomputable def keptD (r : RuleD) (s p : Int) : List Int := if p % r.interval = 0 then placesF r (perDays r s p) else []
noncomputable def doneL (r : RuleD) (s : Int) (p : Nat) : List Int := (List.range p).flatMap fun q : Nat => keptD r s (q : Int)
theorem doneL_step (p : Nat) : doneL r s (p + 1) = doneL r s p ++ keptD r s (p : Int) := by
  unfold doneL
  rw [List.range_succ, List.flatMap_append, List.flatMap_cons, List.flatMap_nil, List.append_nil]
theorem mem_keptD {p n : Int} (h : n ∈ keptD r s p) : (0 ≤ n ∧ n < 109938) ∧ perP r s n = p := by
  unfold keptD at h
  split at h
  · have := mem_perDays.1 ((placesF_sub r _).subset h); exact ⟨this.1, this.2.1⟩
  · cases h
theorem keptD_rise (p : Int) : (keptD r s p).Pairwise (· < ·) := by
  unfold keptD
  split
  · exact (perDays_rise r s p).sublist (placesF_sub r _)
  · exact .nil
theorem mem_doneL {p : Nat} {n : Int} : n ∈ doneL r s p ↔ ∃ q : Nat, q < p ∧ n ∈ keptD r s (q : Int) := by
  unfold doneL
  rw [List.mem_flatMap]
  constructor
  · rintro ⟨q, h1, h2⟩; exact ⟨q, List.mem_range.1 h1, h2⟩
  · rintro ⟨q, h1, h2⟩; exact ⟨q, List.mem_range.2 h1, h2⟩
theorem doneL_rise : ∀ p : Nat, (doneL r s p).Pairwise (· < ·)
  | 0 => .nil
  | p + 1 => by
    rw [doneL_step]
    refine rise_append (doneL_rise p) (keptD_rise _) fun x hx y hy => ?_
    obtain ⟨q, h1, h2⟩ := mem_doneL.1 hx
    have a := mem_keptD h2
    have b := mem_keptD hy
    by_cases h : x < y
    · exact h
    · have := perP_mono (r := r) (s := s) b.1.1 (show y ≤ x by omega) a.1.2
      omega
theorem mem_cand (hr : mayR r) (hs0 : 0 ≤ s) (hs1 : s < 109938) {n : Int} : n ∈ candK r s 0 ↔ s ≤ n ∧ n ∈ keptD r s (perP r s n) := by
  obtain ⟨hf, ⟨hi0, hi1⟩, -, -⟩ := hr.may
  unfold candK
  rw [mem_candF hs0 hs1 hi0]
  constructor
  · rintro ⟨j, h1, h2, h3, h4, h5⟩
    have hj : 0 ≤ (j : Int) * r.interval := Int.mul_nonneg (by omega) (by omega)
    rw [period_days hs0 hs1 hj hf] at h5
    have := mem_perDays.1 ((placesF_sub r _).subset h5)
    refine ⟨h4, ?_⟩
    unfold keptD
    rw [this.2.1, if_pos (Int.mul_emod_left ..)]
    exact h5
  · rintro ⟨h4, h5⟩
    have hk := mem_keptD h5
    have hp0 := perP_mono (r := r) (s := s) hs0 h4 hk.1.2
    rw [perP_start] at hp0
    unfold keptD at h5
    split at h5
    · rename_i hd
      obtain ⟨p, hp⟩ : ∃ p, p = perP r s n := ⟨_, rfl⟩
      rw [← hp] at h5 hd hp0
      have e : (((p / r.interval).toNat : Nat) : Int) * r.interval = p := by
        have h0 : 0 ≤ p / r.interval := Int.ediv_nonneg hp0 (by omega)
        rw [Int.toNat_of_nonneg h0]
        exact Int.ediv_mul_cancel (Int.dvd_of_emod_eq_zero hd)
      have hm : moreP r s p := by
        by_cases hm : moreP r s p
        · exact hm
        · have := perP_none hs0 hs1 hm hk.1.1 hk.1.2; omega
      have hb := moreP_bd hs0 hs1 hm
      have hle : p / r.interval ≤ p := Int.ediv_le_self _ hp0
      refine ⟨(p / r.interval).toNat, Nat.zero_le _, by omega, by rw [e]; exact hm, h4, ?_⟩
      rw [e, period_days hs0 hs1 hp0 hf]
      exact h5
    · cases h5

/-- Where all days of the periods not yet done are from one on, all that is given ahead of that one is given. -/
theorem out_done (hr : mayR r) (hs0 : 0 ≤ s) (hs1 : s < 109938) {mi below d : Int} {p : Nat} (h0 : 0 ≤ mi) (h1 : mi < 1440) (hd : ∀ n, 0 ≤ n → n < 109938 → (perP r s n < (p : Int) ↔ n < d)) (hb : below ≤ d ∨ 109938 ≤ d) :
    outF r s mi below (doneL r s p) = (timesF r s mi 0).filter fun x => decide (x < below * 1440) := by
  obtain ⟨hf, ⟨hi0, hi1⟩, -, -⟩ := hr.may
  have hC := (cand_all (r := r) hs0 hs1 hf hi0 (120000 - 0) 0).1
  have hCm := (cand_all (r := r) hs0 hs1 hf hi0 (120000 - 0) 0).2
  change (candK r s 0).Pairwise _ at hC
  change ∀ n ∈ candK r s 0, _ at hCm
  have hD : (doneL r s p).filter (fun n => decide (s ≤ n)) = (candK r s 0).filter fun n => decide (n < d) := by
    refine rise_ext ((doneL_rise p).filter _) (hC.filter _) fun n => ?_
    rw [List.mem_filter, List.mem_filter, decide_eq_true_eq, decide_eq_true_eq, mem_doneL, mem_cand hr hs0 hs1]
    constructor
    · rintro ⟨⟨q, h1, h2⟩, h3⟩
      have := mem_keptD h2
      refine ⟨⟨h3, by rw [this.2]; exact h2⟩, (hd n this.1.1 this.1.2).1 (by omega)⟩
    · rintro ⟨⟨h1, h2⟩, h3⟩
      have hk := mem_keptD h2
      have hp0 := perP_mono (r := r) (s := s) hs0 h1 hk.1.2
      rw [perP_start] at hp0
      have := (hd n hk.1.1 hk.1.2).2 h3
      exact ⟨⟨(perP r s n).toNat, by omega, by rw [Int.toNat_of_nonneg hp0]; exact h2⟩, h1⟩
  have hsplit : candK r s 0 = ((candK r s 0).filter fun n => decide (n < d)) ++ ((candK r s 0).filter fun n => decide (d ≤ n)) := by
    refine rise_ext hC (rise_append (hC.filter _) (hC.filter _) fun x hx y hy => ?_) fun n => ?_
    · have := of_decide_eq_true (List.mem_filter.1 hx).2
      have := of_decide_eq_true (List.mem_filter.1 hy).2
      omega
    · rw [List.mem_append, List.mem_filter, List.mem_filter, decide_eq_true_eq, decide_eq_true_eq]
      constructor
      · intro h; by_cases h2 : n < d
        · exact .inl ⟨h, h2⟩
        · exact .inr ⟨h, by omega⟩
      · rintro (h | h) <;> exact h.1
  unfold outF timesF
  rw [hD]
  conv => rhs; rw [hsplit]
  rw [List.map_append]
  obtain ⟨t, h2, h3⟩ := cutG_append r (((candK r s 0).filter fun n => decide (d ≤ n)).map fun n => n * 1440 + mi) (((candK r s 0).filter fun n => decide (n < d)).map fun n => n * 1440 + mi) 0
  rw [h2, List.filter_append]
  have : t.filter (fun x => decide (x < below * 1440)) = [] := by
    rw [List.filter_eq_nil_iff]
    intro x hx
    obtain ⟨n, hn, rfl⟩ := List.mem_map.1 (h3.subset hx)
    rw [List.mem_filter, decide_eq_true_eq] at hn
    have := hCm n hn.1
    simp; omega
  rw [this, List.append_nil]
end
/-- Of the days so far those that are right, of one period. -/
noncomputable def gotD (r : RuleD) (s b p d : Int) : List Int := if p % r.interval = 0 then (ints b d).filter fun n => dec (perP r s n = p ∧ okP r s n) else []
theorem gotD_step {r : RuleD} {s b p d : Int} (h : b ≤ d) (hp : perP r s d = p) : gotD r s b p (d + 1) = gotD r s b p d ++ if dec (p % r.interval = 0 ∧ okP r s d) = true then [d] else [] := by
  unfold gotD
  by_cases hi : p % r.interval = 0
  · rw [if_pos hi, if_pos hi, ints_snoc h, List.filter_append]
    congr 1
    by_cases ho : okP r s d
    · rw [List.filter_cons, if_pos (dec_t ⟨hp, ho⟩), if_pos (dec_t ⟨hi, ho⟩)]; rfl
    · rw [List.filter_cons, if_neg (by rw [dec_f (fun h => ho h.2)]; decide), if_neg (by rw [dec_f (fun h => ho h.2)]; decide)]; rfl
  · rw [if_neg hi, if_neg hi, if_neg (by rw [dec_f (fun h => hi h.1)]; decide)]; rfl
/-- A period that is over. -/
theorem got_all {r : RuleD} {s b p d : Int} (hp : 0 ≤ p) (hd : d ≤ 109938) (hb : ∀ n, 0 ≤ n → n < 109938 → (0 ≤ perP r s n ↔ b ≤ n)) (hb0 : 0 ≤ b) (h : ∀ n, 0 ≤ n → n < 109938 → perP r s n = p → n < d) : placesF r (gotD r s b p d) = keptD r s p := by
  unfold gotD keptD
  by_cases hi : p % r.interval = 0
  · rw [if_pos hi, if_pos hi]
    refine congrArg (placesF r) (rise_ext ((ints_rise _ _).filter _) (perDays_rise _ _ _) fun n => ?_)
    rw [List.mem_filter, mem_ints, dec_iff, mem_perDays]
    constructor
    · rintro ⟨h1, h2⟩; exact ⟨by omega, h2⟩
    · rintro ⟨h1, h2⟩; exact ⟨⟨(hb n h1.1 h1.2).1 (by omega), h n h1.1 h1.2 h2.1⟩, h2⟩
  · rw [if_neg hi, if_neg hi, placesF_nil]
/-- The first day of the start's period. -/
def beginF (r : RuleD) (s : Int) : Int :=
  if r.freq = 1 then s else if r.freq = 2 then max 0 (s - (s % 7 - r.start + 7) % 7) else if r.freq = 3 then s - dD s + 1 else numD (dateY s) 1 1
set_option maxRecDepth 20000 in
theorem begin_ok {r : RuleD} {s : Int} (hs0 : 0 ≤ s) (hs1 : s < 109938) (hst : 0 ≤ r.start ∧ r.start ≤ 6) : (0 ≤ beginF r s ∧ beginF r s ≤ s) ∧ ∀ n, 0 ≤ n → n < 109938 → (0 ≤ perP r s n ↔ beginF r s ≤ n) := by
  obtain ⟨hv, hn, m1, m2⟩ := date_valid s hs0 hs1
  have hd1 := hv.2.2.1
  have hfirst : numD (dateY s) (dateM s) 1 = s - dD s + 1 := by unfold numD at *; omega
  have key : ∀ n, 0 ≤ n → n < 109938 → ∀ y m, 1900 ≤ y → y ≤ 2200 → 1 ≤ m → m ≤ 12 → (numD y m 1 ≤ n ↔ y < dateY n ∨ y = dateY n ∧ m ≤ dateM n) := by
    intro n h0 h1 y m y0 y1 m0 m1'
    have hl := lenM_pos (y := y) m0 m1'
    have hvm : validD y m 1 := ⟨y0, y1, by omega, by omega⟩
    obtain ⟨e1, e2, e3⟩ := date_of_num y m 1 hvm ⟨m0, m1'⟩
    obtain ⟨hvn, hnn, k1, k2⟩ := date_valid n h0 h1
    have hr := numD_bd y m 1 hvm ⟨m0, m1'⟩
    constructor
    · intro h
      by_cases e : numD y m 1 = n
      · rw [e] at e1 e2; omega
      · have := date_lt (numD y m 1) n (by omega) ⟨h0, h1⟩ (by omega)
        rw [e1, e2, e3] at this; omega
    · intro h
      by_cases h2 : numD y m 1 ≤ n
      · exact h2
      · have := date_lt n (numD y m 1) ⟨h0, h1⟩ (by omega) (by omega)
        rw [e1, e2, e3] at this
        have := hvn.2.2.1
        omega
  have k0 := key s hs0 hs1 (dateY s) 1 hv.1 hv.2.1 (by omega) (by omega)
  unfold beginF perP
  split
  · exact ⟨by omega, fun n h0 h1 => by omega⟩
  split
  · exact ⟨by omega, fun n h0 h1 => by omega⟩
  split
  · have hv1 : validD (dateY s) (dateM s) 1 := ⟨hv.1, hv.2.1, by omega, by have := @lenM_pos (dateY s) (dateM s) m1 m2; omega⟩
    have hrg := numD_bd _ _ _ hv1 ⟨m1, m2⟩
    refine ⟨by omega, fun n h0 h1 => ?_⟩
    have := key n h0 h1 (dateY s) (dateM s) hv.1 hv.2.1 m1 m2
    obtain ⟨-, -, n1, n2⟩ := date_valid n h0 h1
    rw [hfirst] at this
    rw [this]; omega
  · have hv1 : validD (dateY s) 1 1 := ⟨hv.1, hv.2.1, by omega, by have := @lenM_pos (dateY s) 1 (by omega) (by omega); omega⟩
    have hrg := numD_bd _ _ _ hv1 ⟨by omega, by omega⟩
    refine ⟨⟨by omega, k0.2 (.inr ⟨rfl, m1⟩)⟩, fun n h0 h1 => ?_⟩
    have := key n h0 h1 (dateY s) 1 hv.1 hv.2.1 (by omega) (by omega)
    obtain ⟨-, -, n1, n2⟩ := date_valid n h0 h1
    rw [this]; omega
end Go.Proofs.YtechgcjdigpglaaGreat
namespace Go.Proofs.YtechgcjdigpglaaGreat
set_option linter.all false

/-- What holds ahead of a day. -/
structure TS (r : RuleD) (s mi below d : Int) (p : Nat) (out l : List Int) : Prop where
  l_ : l = gotD r s (beginF r s) p d
  o_ : out = outF r s mi below (doneL r s p)
  lo : ∀ n, 0 ≤ n → n < 109938 → n < d → perP r s n ≤ p
  hi : ∀ n, d ≤ n → n < 109938 → (p : Int) ≤ perP r s n
section
variable {r : RuleD} {s mi below d : Int} {p : Nat} {out l : List Int}
theorem gotD_none (h : ∀ n, beginF r s ≤ n → n < d → perP r s n ≠ p) : gotD r s (beginF r s) p d = [] := by
  unfold gotD
  split
  · rw [List.filter_eq_nil_iff]
    intro n hn
    rw [mem_ints] at hn
    rw [dec_f (fun hh => h n hn.1 hn.2 hh.1)]; decide
  · rfl
theorem TS.start (hs0 : 0 ≤ s) (hs1 : s < 109938) (hst : 0 ≤ r.start ∧ r.start ≤ 6) : TS r s mi below (beginF r s) 0 [] [] := by
  obtain ⟨⟨b0, b1⟩, hb⟩ := begin_ok hs0 hs1 hst
  refine ⟨?_, ?_, fun n h0 h1 h2 => ?_, fun n h0 h1 => ?_⟩
  · rw [gotD_none (p := 0) fun n h1 h2 => by omega]
  · unfold doneL outF; rfl
  · have := (hb n h0 h1).1; by_cases h : 0 ≤ perP r s n
    · have := this h; omega
    · show perP r s n ≤ 0; omega
  · exact (hb n (by omega) h1).2 h0
theorem TS.per (hs0 : 0 ≤ s) (hs1 : s < 109938) (hst : 0 ≤ r.start ∧ r.start ≤ 6) (h : TS r s mi below d p out l) (h0 : beginF r s ≤ d) (h1 : d < 109938) : perP r s d = p ∨ perP r s d = p + 1 := by
  obtain ⟨⟨b0, b1⟩, hb⟩ := begin_ok hs0 hs1 hst
  have a := h.hi d (Int.le_refl _) h1
  by_cases hd : d = beginF r s
  · have := perP_mono (r := r) (s := s) b0 b1 hs1
    rw [perP_start, ← hd] at this
    omega
  · have b := h.lo (d - 1) (by omega) (by omega) (by omega)
    have c := perP_step (r := r) (s := s) (n := d - 1) (by omega) (by omega)
    rw [show d - 1 + 1 = d by omega] at c
    omega
theorem TS.next (h : TS r s mi below d p out l) (h0 : beginF r s ≤ d) (hb : 0 ≤ beginF r s) (h1 : d < 109938) (hp : perP r s d = p) : TS r s mi below (d + 1) p out (l ++ if dec ((p : Int) % r.interval = 0 ∧ okP r s d) = true then [d] else []) := by
  refine ⟨?_, h.o_, fun n a b c => ?_, fun n a b => ?_⟩
  · rw [gotD_step h0 hp, ← h.l_]
  · by_cases e : n = d
    · subst e; omega
    · exact h.lo n a b (by omega)
  · have := perP_mono (r := r) (s := s) (show 0 ≤ d by omega) (show d ≤ n by omega) b
    omega
/-- The days kept of a period that is over. -/
theorem TS.kept (hs0 : 0 ≤ s) (hs1 : s < 109938) (hst : 0 ≤ r.start ∧ r.start ≤ 6) (h : TS r s mi below d p out l) (hd0 : 0 ≤ d) (h1 : d ≤ 109938) (hp : d < 109938 → perP r s d = p + 1) : placesF r l = keptD r s p := by
  obtain ⟨⟨b0, b1⟩, hb⟩ := begin_ok hs0 hs1 hst
  rw [h.l_]
  refine got_all (by omega) h1 hb b0 fun n a b c => ?_
  by_cases hn : n < d
  · exact hn
  · have h2 := hp (by omega)
    have := perP_mono (r := r) (s := s) hd0 (show d ≤ n by omega) b; omega
theorem TS.flush (h : TS r s mi below d p out l) (hd : d < 109938) (hd0 : 0 ≤ d) (hb : 0 ≤ beginF r s) (hp : perP r s d = p + 1) : TS r s mi below d (p + 1) (outF r s mi below (doneL r s (p + 1))) [] := by
  refine ⟨?_, rfl, fun n a b c => ?_, fun n a b => ?_⟩
  · rw [gotD_none (p := p + 1) fun n h1 h2 => by have := h.lo n (by omega) (by omega) h2; omega]
  · have := h.lo n a b c; omega
  · have := perP_mono (r := r) (s := s) hd0 a b
    omega
theorem TS.done (hr : mayR r) (hs0 : 0 ≤ s) (hs1 : s < 109938) (h : TS r s mi below d p out l) (h0 : 0 ≤ mi) (h1 : mi < 1440) (hd : d ≤ 109938) (hd0 : 0 ≤ d) (hp : d < 109938 → perP r s d = p + 1) (hb : below ≤ d ∨ 109938 ≤ d) :
    outF r s mi below (doneL r s (p + 1)) = (timesF r s mi 0).filter fun x => decide (x < below * 1440) := by
  refine out_done hr hs0 hs1 h0 h1 (fun n a b => ⟨fun hh => ?_, fun hh => ?_⟩) hb
  · by_cases hn : n < d
    · exact hn
    · have h2 := hp (by omega)
      have := perP_mono (r := r) (s := s) hd0 (show d ≤ n by omega) b
      omega
  · have := h.lo n a b hh; omega
/-- One more day that is kept: what is given. -/
theorem kept_step {k : Nat} {x : Int} (h0 : 0 ≤ mi) (h1 : mi < 1440) (hx : (keptD r s p)[k]? = some x) :
    outF r s mi below (doneL r s p ++ (keptD r s p).take (k + 1)) = outF r s mi below (doneL r s p ++ (keptD r s p).take k) ++ (if dec (skipP r s mi below (outF r s mi below (doneL r s p ++ (keptD r s p).take k)).length x) = true then [] else [x * 1440 + mi]) := by
  obtain ⟨hk, e⟩ := List.getElem?_eq_some_iff.1 hx
  rw [show (keptD r s p).take (k + 1) = (keptD r s p).take k ++ [x] by rw [List.take_add_one, hx]; rfl, ← List.append_assoc]
  refine outF_step r s mi below h0 h1 _ x fun y hy => ?_
  have hall := doneL_rise (r := r) (s := s) (p + 1)
  rw [doneL_step, List.pairwise_append] at hall
  rw [List.mem_append] at hy
  rcases hy with hy | hy
  · exact hall.2.2 y hy x (List.mem_of_getElem? hx)
  · obtain ⟨i, hi, rfl⟩ := List.getElem_of_mem hy
    rw [List.length_take] at hi
    rw [List.getElem_take, ← e]
    exact List.pairwise_iff_getElem.1 hall.2.1 i k (by omega) hk (by omega)
theorem rise_len2 : ∀ {l : List Int} {a b : Int}, l.Pairwise (· < ·) → (∀ x ∈ l, a ≤ x ∧ x < b) → (l.length : Int) ≤ max 0 (b - a)
  | [], _, _, _, _ => by simp; omega
  | x :: l, a, b, h, hl => by
    rw [List.pairwise_cons] at h
    have hx := hl x (List.mem_cons_self ..)
    have := rise_len2 (a := x + 1) (b := b) h.2 fun y hy => ⟨by have := h.1 y hy; omega, (hl y (List.mem_cons_of_mem _ hy)).2⟩
    rw [List.length_cons]; omega
theorem outF_len {m : List Int} (h : m.Pairwise (· < ·)) (hm : ∀ x ∈ m, 0 ≤ x ∧ x < 109938) : (outF r s mi below m).length ≤ 109938 := by
  have h1 := rise_len2 h hm
  have h2 : (outF r s mi below m).length ≤ m.length := by
    unfold outF
    refine Nat.le_trans (List.length_filter_le _ _) (Nat.le_trans (cutG_sub r _ 0).length_le ?_)
    rw [List.length_map]; exact List.length_filter_le _ _
  omega
theorem done_len {k : Nat} : (outF r s mi below (doneL r s p ++ (keptD r s p).take k)).length ≤ 109938 := by
  have hall := doneL_rise (r := r) (s := s) (p + 1)
  rw [doneL_step] at hall
  refine outF_len (hall.sublist ((List.take_sublist k _).append_left _)) fun x hx => ?_
  rw [List.mem_append] at hx
  rcases hx with hx | hx
  · obtain ⟨q, _, h⟩ := mem_doneL.1 hx; exact (mem_keptD h).1
  · exact (mem_keptD ((List.take_sublist k _).subset hx)).1
theorem got_len {b q : Int} (h : 0 ≤ b) (hd : d ≤ 109938) : (gotD r s b q d).length ≤ 109938 := by
  unfold gotD
  split
  · have := rise_len2 (l := (ints b d).filter fun n => dec (perP r s n = q ∧ okP r s n)) (a := b) (b := d) ((ints_rise _ _).filter _) fun x hx => by
      rw [List.mem_filter, mem_ints] at hx; exact hx.1
    omega
  · simp
end
end Go.Proofs.YtechgcjdigpglaaGreat
