/- The times of a rule: its periods' days, as the code takes them and by the number of a day's period. Plain laws; conditions: each theorem's own. The times of a rule: all of them, and those between two stamps. Plain laws; conditions: each theorem's own. -/
import Derived.Test.YtechgcjdigpglaaGreatH1
import Derived.Test.YtechgcjdigpglaaGreatR6
namespace Go.Proofs.YtechgcjdigpglaaGreat
set_option linter.all false

def ints (a b : Int) : List Int := (List.range (b - a).toNat).map fun k : Nat => a + (k : Int)
theorem mem_ints {a b x : Int} : x ∈ ints a b ↔ a ≤ x ∧ x < b := by
  unfold ints
  rw [List.mem_map]
  constructor
  · rintro ⟨k, hk, rfl⟩
    rw [List.mem_range] at hk
    omega
  · rintro ⟨h1, h2⟩
    exact ⟨(x - a).toNat, by rw [List.mem_range]; omega, by omega⟩
theorem ints_rise (a b : Int) : (ints a b).Pairwise (· < ·) := by
  unfold ints
  rw [List.pairwise_map]
  exact List.Pairwise.imp (fun h => by omega) List.pairwise_lt_range
theorem ints_snoc {a b : Int} (h : a ≤ b) : ints a (b + 1) = ints a b ++ [b] := by
  unfold ints
  rw [show (b + 1 - a).toNat = (b - a).toNat + 1 by omega, List.range_succ, List.map_append]
  congr 1
  simp only [List.map_cons, List.map_nil]
  congr 1
  omega
theorem ints_cons {a b : Int} (h : a < b) : ints a b = a :: ints (a + 1) b := by
  unfold ints
  rw [show (b - a).toNat = (b - (a + 1)).toNat + 1 by omega, List.range_succ_eq_map, List.map_cons, List.map_map]
  congr 1
  · omega
  · apply List.map_congr_left
    intro k _
    simp only [Function.comp]
    omega
theorem ints_none {a b : Int} (h : b ≤ a) : ints a b = [] := by
  unfold ints
  rw [show (b - a).toNat = 0 by omega]
  rfl
theorem rise_ext : ∀ {l m : List Int}, l.Pairwise (· < ·) → m.Pairwise (· < ·) → (∀ x, x ∈ l ↔ x ∈ m) → l = m
  | [], [], _, _, _ => rfl
  | [], y :: m, _, _, h => absurd ((h y).2 (List.mem_cons_self ..)) (by simp)
  | x :: l, [], _, _, h => absurd ((h x).1 (List.mem_cons_self ..)) (by simp)
  | x :: l, y :: m, hl, hm, h => by
    rw [List.pairwise_cons] at hl hm
    have e : x = y := by
      have h1 := (h x).1 (List.mem_cons_self ..)
      have h2 := (h y).2 (List.mem_cons_self ..)
      rw [List.mem_cons] at h1 h2
      rcases h1 with h1 | h1
      · exact h1
      · rcases h2 with h2 | h2
        · exact h2.symm
        · have a := hm.1 x h1; have b := hl.1 y h2; omega
    subst e
    rw [rise_ext hl.2 hm.2 fun z => ?_]
    constructor
    · intro hz
      have := (h z).1 (List.mem_cons_of_mem _ hz)
      rw [List.mem_cons] at this
      rcases this with rfl | this
      · exact absurd (hl.1 _ hz) (Int.lt_irrefl _)
      · exact this
    · intro hz
      have := (h z).2 (List.mem_cons_of_mem _ hz)
      rw [List.mem_cons] at this
      rcases this with rfl | this
      · exact absurd (hm.1 _ hz) (Int.lt_irrefl _)
      · exact this

/-- The date of the next day. -/
theorem date_next (n : Int) (h0 : 0 ≤ n) (h1 : n + 1 < 109938) : (dateY (n + 1) = dateY n ∧ dateM (n + 1) = dateM n ∧ dD (n + 1) = dD n + 1 ∧ dD n < lenM (dateY n) (dateM n)) ∨
    (dD n = lenM (dateY n) (dateM n) ∧ dD (n + 1) = 1 ∧ (dateM n < 12 ∧ dateM (n + 1) = dateM n + 1 ∧ dateY (n + 1) = dateY n ∨ dateM n = 12 ∧ dateM (n + 1) = 1 ∧ dateY (n + 1) = dateY n + 1)) := by
  obtain ⟨hv, hn, m1, m2⟩ := date_valid n h0 (by omega)
  obtain ⟨v1, v2, v3, v4⟩ := hv
  by_cases hd : dD n < lenM (dateY n) (dateM n)
  · have hv2 : validD (dateY n) (dateM n) (dD n + 1) := ⟨v1, v2, by omega, by omega⟩
    have e : numD (dateY n) (dateM n) (dD n + 1) = n + 1 := by unfold numD at hn ⊢; omega
    have := date_of_num _ _ _ hv2 ⟨m1, m2⟩
    rw [e] at this
    exact .inl ⟨this.1, this.2.1, this.2.2, hd⟩
  · have hd' : dD n = lenM (dateY n) (dateM n) := by omega
    refine .inr ⟨hd', ?_⟩
    have hc := numD_cum (dateY n) (dateM n) (dD n)
    by_cases hm : dateM n < 12
    · have hs := cumM_step (dateY n) (dateM n) m1 hm
      have e : numD (dateY n) (dateM n + 1) 1 = n + 1 := by rw [numD_cum]; omega
      have hl : 1 ≤ lenM (dateY n) (dateM n + 1) := by
        have := leapN_bd (dateY n)
        unfold lenM
        split
        · omega
        · split
          · omega
          · rw [if_pos (by omega)]; omega
      have := date_of_num _ _ _ ⟨v1, v2, by omega, hl⟩ (show 1 ≤ dateM n + 1 ∧ dateM n + 1 ≤ 12 by omega)
      rw [e] at this
      exact ⟨this.2.2, .inl ⟨hm, this.2.1, this.1⟩⟩
    · have hm12 : dateM n = 12 := by omega
      have hy := cum_year (dateY n)
      have hb := dby_step (dateY n)
      rw [hm12] at hc hd'
      have e : numD (dateY n + 1) 1 1 = n + 1 := by rw [numD_cum, cumM_0]; rw [hm12] at hn; omega
      have hy2 : dateY n ≠ 2200 := by
        intro h
        rw [h] at e
        have : numD (2200 + 1) 1 1 = 109938 := by decide
        omega
      have := date_of_num (dateY n + 1) 1 1 ⟨by omega, by omega, by omega, by show (1 : Int) ≤ 31; omega⟩ (by omega)
      rw [e] at this
      exact ⟨this.2.2, .inr ⟨hm12, this.2.1, this.1⟩⟩

def nthP (l : List DayND) (n : Int) : Prop := ∃ x ∈ l, x.day = n % 7 ∧ (x.n = 0 ∨ x.n = (dD n - 1) / 7 + 1 ∨ x.n = -((lenM (dateY n) (dateM n) - dD n) / 7 + 1))
/-- Is a day as the rule's rows say. -/
def rightP (r : RuleD) (n : Int) : Prop :=
  (r.byMonth = [] ∨ dateM n ∈ r.byMonth) ∧ (r.byMonthDay = [] ∨ dD n ∈ r.byMonthDay ∨ dD n - lenM (dateY n) (dateM n) - 1 ∈ r.byMonthDay) ∧ (r.byDay = [] ∨ nthP r.byDay n)
def plainP (r : RuleD) : Prop := r.byMonthDay = [] ∧ r.byDay = []
/-- Is a day as the start says, where the rows say nothing. -/
def usualP (r : RuleD) (s n : Int) : Prop :=
  (r.freq = 2 → plainP r → n % 7 = s % 7) ∧ (r.freq = 3 → plainP r → dD n = dD s) ∧ (r.freq = 4 → plainP r → dD n = dD s ∧ (r.byMonth ≠ [] ∨ dateM n = dateM s))
def okP (r : RuleD) (s n : Int) : Prop := rightP r n ∧ usualP r s n
/-- Of the calendar's days from one on, ahead of another one, those that are right. -/
noncomputable def daysF (r : RuleD) (s a b : Int) : List Int := (ints (max a 0) b).filter fun n => dec (n < 109938 ∧ okP r s n)
open Classical in
noncomputable def monthF (r : RuleD) (s y m : Int) : List Int := if validD y m 1 ∧ (r.byMonth = [] ∨ m ∈ r.byMonth) then daysF r s (numD y m 1) (numD y m 1 + lenM y m) else []
def weekLo (r : RuleD) (s x : Int) : Int := s - (s % 7 - r.start) % 7 + 7 * x
def monthNo (s x : Int) : Int := 12 * dateY s + dateM s - 1 + x
/-- The days of a period that are right; x: its number times the interval. -/
noncomputable def periodF (r : RuleD) (s x : Int) : List Int :=
  if r.freq = 1 then daysF r s (s + x) (s + x + 1)
  else if r.freq = 2 then daysF r s (weekLo r s x) (weekLo r s x + 7)
  else if r.freq = 3 then monthF r s (monthNo s x / 12) (monthNo s x % 12 + 1)
  else (List.range 12).flatMap fun m : Nat => monthF r s (dateY s + x) ((m : Int) + 1)
/-- Are there days of a period, or behind it. -/
def moreP (r : RuleD) (s x : Int) : Prop :=
  if r.freq = 1 then s + x < 109938
  else if r.freq = 2 then weekLo r s x < 109938
  else if r.freq = 3 then monthNo s x / 12 ≤ 2200
  else dateY s + x ≤ 2200
/-- The number of a day's period. -/
def perP (r : RuleD) (s n : Int) : Int :=
  if r.freq = 1 then n - s
  else if r.freq = 2 then (n - s + (s % 7 - r.start) % 7) / 7
  else if r.freq = 3 then 12 * (dateY n - dateY s) + dateM n - dateM s
  else dateY n - dateY s
noncomputable def perDays (r : RuleD) (s p : Int) : List Int := (ints 0 109938).filter fun n => dec (perP r s n = p ∧ okP r s n)

theorem filter_rise {p : Int → Bool} {l : List Int} (h : l.Pairwise (· < ·)) : (l.filter p).Pairwise (· < ·) := h.filter _
theorem daysF_rise (r : RuleD) (s a b : Int) : (daysF r s a b).Pairwise (· < ·) := filter_rise (ints_rise _ _)
theorem mem_daysF {r : RuleD} {s a b x : Int} : x ∈ daysF r s a b ↔ (a ≤ x ∧ 0 ≤ x ∧ x < b) ∧ x < 109938 ∧ okP r s x := by
  unfold daysF
  rw [List.mem_filter, mem_ints, dec_iff]
  constructor
  · rintro ⟨h1, h2⟩; exact ⟨by omega, h2⟩
  · rintro ⟨h1, h2⟩; exact ⟨by omega, h2⟩
theorem perDays_rise (r : RuleD) (s p : Int) : (perDays r s p).Pairwise (· < ·) := filter_rise (ints_rise _ _)
theorem mem_perDays {r : RuleD} {s p x : Int} : x ∈ perDays r s p ↔ (0 ≤ x ∧ x < 109938) ∧ perP r s x = p ∧ okP r s x := by
  unfold perDays
  rw [List.mem_filter, mem_ints, dec_iff]
theorem lenM_pos {y m : Int} (h1 : 1 ≤ m) (h2 : m ≤ 12) : 28 ≤ lenM y m := by
  have := leapN_bd y
  unfold lenM
  split
  · omega
  · split
    · omega
    · rw [if_pos (by omega)]; omega
/-- A day is one of a month's days just if that is its month. -/
theorem in_month {y m n : Int} (hv : 1900 ≤ y) (hv2 : y ≤ 2200) (h1 : 1 ≤ m) (h2 : m ≤ 12) (h0 : 0 ≤ n) (hn : n < 109938) : (numD y m 1 ≤ n ∧ n < numD y m 1 + lenM y m) ↔ dateY n = y ∧ dateM n = m := by
  have hd := date_valid n h0 hn
  constructor
  · rintro ⟨q1, q2⟩
    have hv' : validD y m (n - numD y m 1 + 1) := ⟨hv, hv2, by omega, by omega⟩
    have e : numD y m (n - numD y m 1 + 1) = n := by unfold numD; omega
    have := date_of_num _ _ _ hv' ⟨h1, h2⟩
    rw [e] at this
    exact ⟨this.1, this.2.1⟩
  · rintro ⟨rfl, rfl⟩
    have := hd.2.1
    have := hd.1
    unfold validD at this
    unfold numD at *
    omega
theorem monthF_rise (r : RuleD) (s y m : Int) : (monthF r s y m).Pairwise (· < ·) := by
  unfold monthF
  split
  · exact daysF_rise _ _ _ _
  · exact List.Pairwise.nil
theorem mem_monthF {r : RuleD} {s y m x : Int} (h1 : 1 ≤ m) (h2 : m ≤ 12) (hy : 1900 ≤ y) : x ∈ monthF r s y m ↔ (0 ≤ x ∧ x < 109938) ∧ (dateY x = y ∧ dateM x = m) ∧ okP r s x := by
  have hlen := @lenM_pos y m h1 h2
  unfold monthF
  by_cases hy2 : y ≤ 2200
  · by_cases hb : r.byMonth = [] ∨ m ∈ r.byMonth
    · rw [if_pos ⟨⟨hy, hy2, by omega, by omega⟩, hb⟩, mem_daysF]
      constructor
      · rintro ⟨q1, q2, q3⟩
        exact ⟨by omega, (in_month hy hy2 h1 h2 q1.2.1 q2).1 (by omega), q3⟩
      · rintro ⟨q1, q2, q3⟩
        have := (in_month hy hy2 h1 h2 q1.1 q1.2).2 q2
        exact ⟨by omega, q1.2, q3⟩
    · rw [if_neg (fun h => hb h.2)]
      simp only [List.not_mem_nil, false_iff]
      rintro ⟨q1, q2, q3⟩
      exact hb (q2.2 ▸ q3.1.1)
  · rw [if_neg (fun h => hy2 h.1.2.1)]
    simp only [List.not_mem_nil, false_iff]
    rintro ⟨q1, q2, q3⟩
    have := (date_valid x q1.1 q1.2).1
    unfold validD at this
    omega
theorem periodF_rise (r : RuleD) (s x : Int) (hs0 : 0 ≤ s) (hs1 : s < 109938) (hx : 0 ≤ x) : (periodF r s x).Pairwise (· < ·) := by
  unfold periodF
  split
  · exact daysF_rise _ _ _ _
  split
  · exact daysF_rise _ _ _ _
  split
  · exact monthF_rise _ _ _ _
  · rw [List.pairwise_flatMap]
    refine ⟨fun m _ => monthF_rise _ _ _ _, ?_⟩
    have hy := (date_valid s hs0 hs1).1.1
    refine List.pairwise_lt_range.imp_of_mem fun {a b} ha hb hab u hu v hv => ?_
    rw [List.mem_range] at ha hb
    rw [mem_monthF (by omega) (by omega) (by omega)] at hu hv
    by_cases h : u < v
    · exact h
    · exfalso
      by_cases e : u = v
      · subst e; omega
      · have := date_lt v u hv.1 hu.1 (by omega); omega
theorem period_days {r : RuleD} {s x : Int} (hs0 : 0 ≤ s) (hs1 : s < 109938) (hx : 0 ≤ x) (hf : 1 ≤ r.freq ∧ r.freq ≤ 4) : periodF r s x = perDays r s x := by
  refine rise_ext (periodF_rise r s x hs0 hs1 hx) (perDays_rise r s x) fun n => ?_
  rw [mem_perDays]
  obtain ⟨hv, -, m1, m2⟩ := date_valid s hs0 hs1
  have hy := hv.1
  unfold periodF perP
  split
  · rw [mem_daysF]
    constructor
    · rintro ⟨a, b, c⟩; exact ⟨by omega, by omega, c⟩
    · rintro ⟨a, b, c⟩; exact ⟨by omega, by omega, c⟩
  split
  · rw [mem_daysF]
    unfold weekLo
    constructor
    · rintro ⟨a, b, c⟩; exact ⟨by omega, by omega, c⟩
    · rintro ⟨a, b, c⟩; exact ⟨by omega, by omega, c⟩
  split
  · unfold monthNo
    rw [mem_monthF (by omega) (by omega) (by omega)]
    constructor
    · rintro ⟨a, b, c⟩; exact ⟨a, by omega, c⟩
    · rintro ⟨a, b, c⟩
      obtain ⟨-, -, n1, n2⟩ := date_valid n a.1 a.2
      exact ⟨a, by omega, c⟩
  · rw [List.mem_flatMap]
    constructor
    · rintro ⟨m, hm, h⟩
      rw [List.mem_range] at hm
      rw [mem_monthF (by omega) (by omega) (by omega)] at h
      exact ⟨h.1, by omega, h.2.2⟩
    · rintro ⟨a, b, c⟩
      obtain ⟨-, -, n1, n2⟩ := date_valid n a.1 a.2
      refine ⟨(dateM n - 1).toNat, by rw [List.mem_range]; omega, ?_⟩
      rw [mem_monthF (by omega) (by omega) (by omega)]
      exact ⟨a, by omega, c⟩
theorem perP_none {r : RuleD} {s x n : Int} (hs0 : 0 ≤ s) (hs1 : s < 109938) (hm : ¬ moreP r s x) (h0 : 0 ≤ n) (h1 : n < 109938) : perP r s n < x := by
  obtain ⟨hv, -, m1, m2⟩ := date_valid n h0 h1
  obtain ⟨hu, -, k1, k2⟩ := date_valid s hs0 hs1
  have hy := hv.2.1
  unfold moreP weekLo monthNo at hm
  unfold perP
  split
  · rename_i h; rw [if_pos h] at hm; omega
  rename_i h; rw [if_neg h] at hm
  split
  · rename_i h; rw [if_pos h] at hm; omega
  rename_i h; rw [if_neg h] at hm
  split
  · rename_i h; rw [if_pos h] at hm; omega
  · rename_i h; rw [if_neg h] at hm; omega
theorem moreP_bd {r : RuleD} {s x : Int} (hs0 : 0 ≤ s) (hs1 : s < 109938) (hm : moreP r s x) : x < 110000 := by
  obtain ⟨hv, -, m1, m2⟩ := date_valid s hs0 hs1
  have := hv.1
  unfold moreP weekLo monthNo at hm
  split at hm
  · omega
  split at hm
  · omega
  split at hm
  · omega
  · omega
theorem moreP_mono {r : RuleD} {s x y : Int} (h : x ≤ y) (hm : moreP r s y) : moreP r s x := by
  unfold moreP weekLo monthNo at *
  split
  · rename_i h; rw [if_pos h] at hm; omega
  rename_i h; rw [if_neg h] at hm
  split
  · rename_i h; rw [if_pos h] at hm; omega
  rename_i h; rw [if_neg h] at hm
  split
  · rename_i h; rw [if_pos h] at hm; omega
  · rename_i h; rw [if_neg h] at hm; omega
theorem perP_mono {r : RuleD} {s a b : Int} (h0 : 0 ≤ a) (hab : a ≤ b) (h1 : b < 109938) : perP r s a ≤ perP r s b := by
  have hd : dateY a < dateY b ∨ dateY a = dateY b ∧ dateM a ≤ dateM b := by
    by_cases e : a = b
    · subst e; exact .inr ⟨rfl, Int.le_refl _⟩
    · have := date_lt a b ⟨h0, by omega⟩ ⟨by omega, h1⟩ (by omega); omega
  obtain ⟨-, -, m1, m2⟩ := date_valid a h0 (by omega)
  obtain ⟨-, -, k1, k2⟩ := date_valid b (by omega) h1
  unfold perP
  split
  · omega
  split
  · omega
  split
  · omega
  · omega
theorem perP_step {r : RuleD} {s n : Int} (h0 : 0 ≤ n) (h1 : n + 1 < 109938) : perP r s (n + 1) ≤ perP r s n + 1 := by
  have hd := date_next n h0 h1
  obtain ⟨-, -, m1, m2⟩ := date_valid n h0 (by omega)
  unfold perP
  split
  · omega
  split
  · omega
  split
  · omega
  · omega
theorem perP_start {r : RuleD} {s : Int} : perP r s s = 0 := by
  unfold perP
  split
  · omega
  split
  · omega
  split
  · omega
  · omega
end Go.Proofs.YtechgcjdigpglaaGreat
namespace Go.Proofs.YtechgcjdigpglaaGreat
set_option linter.all false

noncomputable def placeAux (pos : List Int) (len : Nat) : Nat → List Int → List Int
  | _, [] => []
  | i, x :: t => if dec ((i : Int) + 1 ∈ pos ∨ (i : Int) - (len : Int) ∈ pos) = true then x :: placeAux pos len (i + 1) t else placeAux pos len (i + 1) t
/-- The days at the places that a rule tells. -/
noncomputable def placesF (r : RuleD) (l : List Int) : List Int := if r.bySetPos = [] then l else placeAux r.bySetPos l.length 0 l
theorem placeAux_sub (pos : List Int) (len : Nat) : ∀ (l : List Int) (i : Nat), (placeAux pos len i l).Sublist l
  | [], _ => List.Sublist.slnil
  | x :: t, i => by
    rw [placeAux]
    split
    · exact (placeAux_sub pos len t (i + 1)).cons₂ x
    · exact (placeAux_sub pos len t (i + 1)).cons x
theorem placeAux_append (pos : List Int) (len : Nat) : ∀ (l m : List Int) (i : Nat), placeAux pos len i (l ++ m) = placeAux pos len i l ++ placeAux pos len (i + l.length) m
  | [], m, i => by simp [placeAux]
  | x :: t, m, i => by
    rw [List.cons_append, placeAux, placeAux, placeAux_append pos len t m (i + 1), show i + 1 + t.length = i + (x :: t).length by simp; omega]
    split <;> rfl
theorem placesF_sub (r : RuleD) (l : List Int) : (placesF r l).Sublist l := by
  unfold placesF
  split
  · exact List.Sublist.refl _
  · exact placeAux_sub _ _ _ _
theorem placesF_nil (r : RuleD) : placesF r [] = [] := List.sublist_nil.1 (placesF_sub r [])

/-- The days of the periods from one on, at their places, from the start's day on; so many periods. -/
noncomputable def candF (r : RuleD) (s : Int) : Nat → Nat → List Int
  | _, 0 => []
  | k, f + 1 => if dec (moreP r s ((k : Int) * r.interval)) = true then (placesF r (periodF r s ((k : Int) * r.interval))).filter (fun n => decide (s ≤ n)) ++ candF r s (k + 1) f else []
noncomputable def candK (r : RuleD) (s : Int) (k : Nat) : List Int := candF r s k (120000 - k)
theorem candK_step (r : RuleD) (s : Int) (k : Nat) (hk : k < 120000) : candK r s k = if dec (moreP r s ((k : Int) * r.interval)) = true then (placesF r (periodF r s ((k : Int) * r.interval))).filter (fun n => decide (s ≤ n)) ++ candK r s (k + 1) else [] := by
  unfold candK
  rw [show 120000 - k = (120000 - (k + 1)) + 1 by omega, candF]
/-- Times up to where a rule ends, so many given. -/
def cutG (r : RuleD) : Nat → List Int → List Int
  | _, [] => []
  | g, x :: t => if (0 ≤ r.until_ ∧ r.until_ < x) ∨ (0 < r.count ∧ (g : Int) = r.count) then [] else x :: cutG r (g + 1) t
/-- The times of the periods from one on. -/
noncomputable def timesF (r : RuleD) (s mi : Int) (k : Nat) : List Int := cutG r 0 ((candK r s k).map fun n => n * 1440 + mi)

theorem cutG_sub (r : RuleD) : ∀ (l : List Int) (g : Nat), (cutG r g l).Sublist l
  | [], _ => List.Sublist.slnil
  | x :: t, g => by
    rw [cutG]
    split
    · exact List.nil_sublist _
    · exact (cutG_sub r t (g + 1)).cons₂ x

/-- What a walk between two stamps gathers. -/
def betF (from_ to_ most : Int) : List Int → List Int → List Int × Bool
  | out, [] => (out, true)
  | out, x :: t => if to_ ≤ x then (out, true) else if x < from_ then betF from_ to_ most out t else if most ≤ (out.length : Int) then ([], false) else betF from_ to_ most (out ++ [x]) t
def longF (r : RuleD) : Int := if r.freq = 1 then 1 else if r.freq = 2 then 7 else if r.freq = 3 then 31 else 366
/-- A period ahead of which there is no time from a stamp on. -/
def firstF (r : RuleD) (s from_ : Int) : Nat := if 0 < r.count ∨ from_ / 1440 - s ≤ 0 then 0 else ((from_ / 1440 - s) / (longF r * r.interval) - 1).toNat
def startOk (start : Int) : Prop := 0 ≤ start ∧ start < 158310720
noncomputable def betweenF (r : RuleD) (start from_ to_ most : Int) : List Int × Bool :=
  if dec (mayR r ∧ startOk start) = false ∨ to_ ≤ from_ ∨ to_ ≤ start then ([], true)
  else betF from_ to_ most [] (timesF r (start / 1440) (start % 1440) (firstF r (start / 1440) (min (max from_ 0) 158310720)))
/-- All times of a rule. -/
noncomputable def allT (r : RuleD) (start : Int) : List Int := timesF r (start / 1440) (start % 1440) 0
/-- The times from a stamp on, ahead of another one. -/
noncomputable def someT (r : RuleD) (start from_ to_ : Int) : List Int := (allT r start).filter fun x => decide (from_ ≤ x) && decide (x < to_)

theorem betF_eq (from_ to_ most : Int) : ∀ (l out : List Int), l.Pairwise (· < ·) → ((out ++ l.filter fun x => decide (from_ ≤ x) && decide (x < to_)).length : Int) ≤ most →
    betF from_ to_ most out l = (out ++ l.filter fun x => decide (from_ ≤ x) && decide (x < to_), true)
  | [], out, _, _ => by simp [betF]
  | x :: t, out, hl, hm => by
    rw [List.pairwise_cons] at hl
    rw [betF]
    by_cases h1 : to_ ≤ x
    · rw [if_pos h1]
      have : (x :: t).filter (fun x => decide (from_ ≤ x) && decide (x < to_)) = [] := by
        rw [List.filter_eq_nil_iff]
        intro y hy
        rw [List.mem_cons] at hy
        rcases hy with rfl | hy
        · simp; omega
        · have := hl.1 y hy; simp; omega
      rw [this, List.append_nil]
    · rw [if_neg h1]
      by_cases h2 : x < from_
      · rw [if_pos h2]
        have e : (x :: t).filter (fun x => decide (from_ ≤ x) && decide (x < to_)) = t.filter (fun x => decide (from_ ≤ x) && decide (x < to_)) := by
          rw [List.filter_cons, if_neg (by simp; omega)]
        rw [e] at hm ⊢
        exact betF_eq from_ to_ most t out hl.2 hm
      · rw [if_neg h2]
        have e : (x :: t).filter (fun x => decide (from_ ≤ x) && decide (x < to_)) = x :: t.filter (fun x => decide (from_ ≤ x) && decide (x < to_)) := by
          rw [List.filter_cons, if_pos (by simp; omega)]
        rw [e] at hm ⊢
        have hlen : ¬ most ≤ (out.length : Int) := by simp at hm; omega
        rw [if_neg hlen, betF_eq from_ to_ most t (out ++ [x]) hl.2 (by simpa using hm)]
        simp

theorem rise_append {l m : List Int} (hl : l.Pairwise (· < ·)) (hm : m.Pairwise (· < ·)) (h : ∀ x ∈ l, ∀ y ∈ m, x < y) : (l ++ m).Pairwise (· < ·) :=
  List.pairwise_append.2 ⟨hl, hm, h⟩

section
variable {r : RuleD} {s : Int}
theorem mem_kept {x n : Int} (hs0 : 0 ≤ s) (hs1 : s < 109938) (hx : 0 ≤ x) (hf : 1 ≤ r.freq ∧ r.freq ≤ 4) (h : n ∈ (placesF r (periodF r s x)).filter fun n => decide (s ≤ n)) : (s ≤ n ∧ n < 109938) ∧ perP r s n = x ∧ okP r s n := by
  rw [List.mem_filter] at h
  have h1 := (placesF_sub r _).subset h.1
  rw [period_days hs0 hs1 hx hf, mem_perDays] at h1
  have := of_decide_eq_true h.2
  exact ⟨by omega, h1.2⟩
theorem kept_rise {x : Int} (hs0 : 0 ≤ s) (hs1 : s < 109938) (hx : 0 ≤ x) : ((placesF r (periodF r s x)).filter fun n => decide (s ≤ n)).Pairwise (· < ·) :=
  ((periodF_rise r s x hs0 hs1 hx).sublist (placesF_sub r _)).filter _
theorem cand_all (hs0 : 0 ≤ s) (hs1 : s < 109938) (hf : 1 ≤ r.freq ∧ r.freq ≤ 4) (hi : 1 ≤ r.interval) : ∀ (f k : Nat),
    (candF r s k f).Pairwise (· < ·) ∧ ∀ n ∈ candF r s k f, (s ≤ n ∧ n < 109938) ∧ (k : Int) * r.interval ≤ perP r s n
  | 0, k => by simp [candF]
  | f + 1, k => by
    have hk : 0 ≤ (k : Int) * r.interval := Int.mul_nonneg (by omega) (by omega)
    obtain ⟨ih1, ih2⟩ := cand_all hs0 hs1 hf hi f (k + 1)
    have hk2 : ((k + 1 : Nat) : Int) * r.interval = (k : Int) * r.interval + r.interval := by rw [Int.natCast_succ, Int.add_mul, Int.one_mul]
    rw [candF]
    split
    · refine ⟨rise_append (kept_rise hs0 hs1 hk) ih1 fun x hx y hy => ?_, fun n hn => ?_⟩
      · have h1 := mem_kept hs0 hs1 hk hf hx
        have h2 := ih2 y hy
        by_cases h : x < y
        · exact h
        · have := perP_mono (r := r) (s := s) (show 0 ≤ y by omega) (show y ≤ x by omega) h1.1.2
          omega
      · rw [List.mem_append] at hn
        rcases hn with hn | hn
        · have h1 := mem_kept hs0 hs1 hk hf hn
          exact ⟨h1.1, by omega⟩
        · have h2 := ih2 n hn
          exact ⟨h2.1, by omega⟩
    · exact ⟨List.Pairwise.nil, fun n hn => absurd hn (by simp)⟩
theorem timesF_rise (hs0 : 0 ≤ s) (hs1 : s < 109938) (hf : 1 ≤ r.freq ∧ r.freq ≤ 4) (hi : 1 ≤ r.interval) (mi : Int) (k : Nat) : (timesF r s mi k).Pairwise (· < ·) := by
  refine List.Pairwise.sublist (cutG_sub r _ 0) ?_
  rw [List.pairwise_map]
  exact List.Pairwise.imp (fun h => by omega) (cand_all hs0 hs1 hf hi _ k).1
theorem mem_timesF (hs0 : 0 ≤ s) (hs1 : s < 109938) (hf : 1 ≤ r.freq ∧ r.freq ≤ 4) (hi : 1 ≤ r.interval) {mi : Int} {k : Nat} {x : Int} (h : x ∈ timesF r s mi k) : ∃ n, x = n * 1440 + mi ∧ (s ≤ n ∧ n < 109938) ∧ (k : Int) * r.interval ≤ perP r s n := by
  have := (cutG_sub r _ 0).subset h
  rw [List.mem_map] at this
  obtain ⟨n, hn, rfl⟩ := this
  exact ⟨n, rfl, (cand_all hs0 hs1 hf hi _ k).2 n hn⟩

/-- Without a count the cut is by the end alone. -/
theorem cutG_until (hc : ¬ 0 < r.count) : ∀ (l : List Int) (g : Nat), l.Pairwise (· < ·) → cutG r g l = l.filter fun x => !(decide (0 ≤ r.until_) && decide (r.until_ < x))
  | [], _, _ => rfl
  | x :: t, g, h => by
    rw [List.pairwise_cons] at h
    rw [cutG]
    by_cases h1 : 0 ≤ r.until_ ∧ r.until_ < x
    · rw [if_pos (.inl h1), eq_comm, List.filter_eq_nil_iff]
      intro y hy
      rw [List.mem_cons] at hy
      rcases hy with rfl | hy
      · simp; omega
      · have := h.1 y hy; simp; omega
    · rw [if_neg (fun h => h.elim h1 (fun h => hc h.1)), cutG_until hc t (g + 1) h.2, List.filter_cons, if_pos (by simp; omega)]
/-- With a count it is by the number alone. -/
theorem cutG_count (hu : ¬ 0 ≤ r.until_) (hc : 0 < r.count) : ∀ (l : List Int) (g : Nat), (g : Int) ≤ r.count → cutG r g l = l.take (r.count.toNat - g)
  | [], _, _ => by simp [cutG]
  | x :: t, g, h => by
    rw [cutG]
    by_cases h1 : (g : Int) = r.count
    · rw [if_pos (.inr ⟨hc, h1⟩), show r.count.toNat - g = 0 by omega, List.take_zero]
    · rw [if_neg (fun h => h.elim (fun h => hu h.1) (fun h => h1 h.2)), cutG_count hu hc t (g + 1) (by omega), show r.count.toNat - g = (r.count.toNat - (g + 1)) + 1 by omega, List.take_succ_cons]

/-- Days of periods ahead of one are ahead of a stamp. -/
theorem first_low (hs0 : 0 ≤ s) (hs1 : s < 109938) (hf : 1 ≤ r.freq ∧ r.freq ≤ 4) (hst : 0 ≤ r.start ∧ r.start ≤ 6) (hi : 1 ≤ r.interval) (hi2 : r.interval ≤ 999) {from_ : Int} (h0 : 0 ≤ from_) (hfr : from_ ≤ 158310720) {n : Int} (hn : s ≤ n) (hn2 : n < 109938)
    (h : perP r s n < (firstF r s from_ : Int) * r.interval) : (n + 1) * 1440 ≤ from_ := by
  unfold firstF at h
  by_cases hz : 0 < r.count ∨ from_ / 1440 - s ≤ 0
  · rw [if_pos hz] at h
    have := perP_mono (r := r) (s := s) hs0 hn hn2
    rw [perP_start] at this
    simp at h; omega
  · rw [if_neg hz] at h
    have hz2 : ¬ from_ / 1440 - s ≤ 0 := fun h => hz (.inr h)
    clear hz
    obtain ⟨g, hg⟩ : ∃ g, g = from_ / 1440 - s := ⟨_, rfl⟩
    rw [← hg] at h hz2
    have hL : 1 ≤ longF r ∧ longF r ≤ 366 := by unfold longF; split <;> (try split) <;> (try split) <;> omega
    obtain ⟨q, hq⟩ : ∃ q, q = g / (longF r * r.interval) := ⟨_, rfl⟩
    have hLI : 0 < longF r * r.interval := Int.mul_pos (by omega) (by omega)
    have hmul : q * (longF r * r.interval) ≤ g := by rw [hq]; exact Int.ediv_mul_le g (by omega)
    have hq0 : 0 ≤ q := by rw [hq]; exact Int.ediv_nonneg (by omega) (by omega)
    rw [← hq] at h
    have hp0 := perP_mono (r := r) (s := s) hs0 hn hn2
    rw [perP_start] at hp0
    have hq1 : 2 ≤ q := by
      by_cases h2 : 2 ≤ q
      · exact h2
      · rw [show (q - 1).toNat = 0 by omega] at h; simp at h; omega
    have e : (((q - 1).toNat : Nat) : Int) = q - 1 := by omega
    rw [e] at h
    -- perP n ≤ (q - 1) * I - 1
    obtain ⟨t, ht⟩ : ∃ t, t = q * r.interval := ⟨_, rfl⟩
    have e1 : (q - 1) * r.interval = t - r.interval := by rw [ht, Int.sub_mul, Int.one_mul]
    rw [e1] at h
    have e2 : longF r * t ≤ g := by rw [ht]; have : q * (longF r * r.interval) = longF r * (q * r.interval) := by rw [Int.mul_left_comm]
                                    omega
    have hkey : n - s ≤ longF r * (perP r s n + 1) := by
      obtain ⟨hv, hn', m1, m2⟩ := date_valid n (by omega) hn2
      obtain ⟨hu, hs', k1, k2⟩ := date_valid s hs0 hs1
      unfold perP longF
      split
      · omega
      split
      · omega
      split
      · -- months
        have hmon : ∀ (d : Nat) (a : Int), 0 ≤ a → a + d < 109938 → (d : Int) ≤ 31 * (12 * (dateY (a + d) - dateY a) + dateM (a + d) - dateM a) + (dD (a + d) - dD a) := by
          intro d
          induction d with
          | zero => intro a h1 h2; simp
          | succ d ih =>
            intro a h1 h2
            have i1 := ih a h1 (by omega)
            have i2 := date_next (a + d) (by omega) (by omega)
            have i3 := lenM_bd (dateY (a + d)) (dateM (a + d))
            rw [show a + ((d + 1 : Nat) : Int) = a + d + 1 by omega]
            omega
        have := hmon (n - s).toNat s hs0 (by omega)
        rw [show s + ((n - s).toNat : Int) = n by omega] at this
        have b1 := (date_bd n (by omega) hn2)
        have b2 := (date_bd s hs0 hs1)
        omega
      · have c1 := numD_cum (dateY n) (dateM n) (dD n)
        have c2 := numD_cum (dateY s) (dateM s) (dD s)
        have hyr : ∀ (d : Nat) (y : Int), dby (y + d) ≤ dby y + 366 * d := by
          intro d y
          induction d with
          | zero => simp
          | succ d ih =>
            have := dby_step (y + d)
            have := leapN_bd (y + d)
            rw [show y + ((d + 1 : Nat) : Int) = y + d + 1 by omega]
            omega
        have hle : dateY s ≤ dateY n := by
          have := date_lt s n ⟨hs0, hs1⟩ ⟨by omega, hn2⟩
          by_cases e : s = n
          · rw [e]; exact Int.le_refl _
          · have := this (by omega); omega
        have := hyr (dateY n - dateY s).toNat (dateY s)
        rw [show dateY s + ((dateY n - dateY s).toNat : Int) = dateY n by omega] at this
        have hl := leapN_bd (dateY n)
        have hcy := cum_year (dateY n)
        have hend : cumM (dateY n) (dateM n) + dD n ≤ 366 := by
          have hstep : ∀ (d : Nat) (m : Int), 1 ≤ m → m + d = 12 → cumM (dateY n) m + lenM (dateY n) m ≤ cumM (dateY n) 12 + lenM (dateY n) 12 := by
            intro d
            induction d with
            | zero => intro m h1 h2; rw [show m = 12 by omega]; exact Int.le_refl _
            | succ d ih =>
              intro m h1 h2
              have a1 := ih (m + 1) (by omega) (by omega)
              have a2 := cumM_step (dateY n) m h1 (by omega)
              have a3 := lenM_bd (dateY n) (m + 1)
              omega
          have a4 := hstep (12 - dateM n).toNat (dateM n) m1 (by omega)
          have a5 := hv.2.2.2
          omega
        have hbeg : 0 ≤ cumM (dateY s) (dateM s) := (cumM_bd _ _ k1 k2).1
        have hd1 := hu.2.2.1
        omega
    have e3 : longF r * (perP r s n + 1) ≤ longF r * (t - r.interval) := Int.mul_le_mul_of_nonneg_left (by omega) (by omega)
    have e4 : longF r * (t - r.interval) = longF r * t - longF r * r.interval := Int.mul_sub ..
    have e5 : longF r * 1 ≤ longF r * r.interval := Int.mul_le_mul_of_nonneg_left (by omega) (by omega)
    omega

/-- From a period on: the same times but for those ahead of it. -/
theorem cand_from (hs0 : 0 ≤ s) (hs1 : s < 109938) (hf : 1 ≤ r.freq ∧ r.freq ≤ 4) (hi : 1 ≤ r.interval) : ∀ (k : Nat), k ≤ 120000 → ∃ pre, candK r s 0 = pre ++ candK r s k ∧ ∀ n ∈ pre, (s ≤ n ∧ n < 109938) ∧ perP r s n < (k : Int) * r.interval
  | 0, _ => ⟨[], rfl, by simp⟩
  | k + 1, hk => by
    obtain ⟨pre, h1, h2⟩ := cand_from hs0 hs1 hf hi k (by omega)
    have hk0 : 0 ≤ (k : Int) * r.interval := Int.mul_nonneg (by omega) (by omega)
    have hk2 : ((k + 1 : Nat) : Int) * r.interval = (k : Int) * r.interval + r.interval := by rw [Int.natCast_succ, Int.add_mul, Int.one_mul]
    have hst := candK_step r s k (by omega)
    by_cases hm : moreP r s ((k : Int) * r.interval)
    · rw [if_pos (dec_t hm)] at hst
      refine ⟨pre ++ (placesF r (periodF r s ((k : Int) * r.interval))).filter (fun n => decide (s ≤ n)), by rw [h1, hst, List.append_assoc], fun n hn => ?_⟩
      rw [List.mem_append] at hn
      rcases hn with hn | hn
      · have := h2 n hn; exact ⟨this.1, by omega⟩
      · have := mem_kept hs0 hs1 hk0 hf hn
        exact ⟨this.1, by omega⟩
    · rw [if_neg (by rw [dec_f hm]; decide)] at hst
      have hst2 : candK r s (k + 1) = [] := by
        by_cases hk3 : k + 1 < 120000
        · rw [candK_step r s (k + 1) hk3, if_neg]
          rw [dec_f (fun h => hm (moreP_mono (by omega) h))]
          decide
        · unfold candK; rw [show 120000 - (k + 1) = 0 by omega]; rfl
      refine ⟨pre, by rw [h1, hst, hst2], fun n hn => ?_⟩
      have := h2 n hn; exact ⟨this.1, by omega⟩
end

theorem firstF_bd {r : RuleD} {s from_ : Int} (hs0 : 0 ≤ s) (h0 : 0 ≤ from_) (hfr : from_ ≤ 158310720) (hf : 1 ≤ r.freq ∧ r.freq ≤ 4) (hi : 1 ≤ r.interval) : firstF r s from_ ≤ 110000 ∧ (firstF r s from_ : Int) * (longF r * r.interval) ≤ 110000 := by
  unfold firstF
  split
  · simp
  · rename_i hz
    have hz2 : ¬ from_ / 1440 - s ≤ 0 := fun h => hz (.inr h)
    have hL : 1 ≤ longF r := by unfold longF; split <;> (try split) <;> (try split) <;> omega
    have hLI : 0 < longF r * r.interval := Int.mul_pos (by omega) (by omega)
    obtain ⟨q, hq⟩ : ∃ q, q = (from_ / 1440 - s) / (longF r * r.interval) := ⟨_, rfl⟩
    have hmul : q * (longF r * r.interval) ≤ from_ / 1440 - s := by rw [hq]; exact Int.ediv_mul_le _ (by omega)
    have hq0 : 0 ≤ q := by rw [hq]; exact Int.ediv_nonneg (by omega) (by omega)
    have hq1 : q ≤ q * (longF r * r.interval) := by
      have := Int.mul_le_mul_of_nonneg_left (show 1 ≤ longF r * r.interval by omega) hq0
      omega
    rw [← hq]
    refine ⟨by omega, ?_⟩
    have : ((q - 1).toNat : Int) ≤ q := by omega
    have := Int.mul_le_mul_of_nonneg_right this (show 0 ≤ longF r * r.interval by omega)
    omega
/-- How many stamps of one minute of the day lie between two. -/
theorem day_count {l : List Int} {mi a b : Int} (h : l.Pairwise (· < ·)) (hl : ∀ x ∈ l, (∃ n, x = n * 1440 + mi) ∧ a ≤ x ∧ x < b) : 1440 * ((l.length : Int) - 1) < b - a ∨ l = [] := by
  induction l generalizing a with
  | nil => exact .inr rfl
  | cons x t ih =>
    rw [List.pairwise_cons] at h
    have hx := hl x (List.mem_cons_self ..)
    left
    rcases ih (a := x + 1440) h.2 (fun y hy => ⟨(hl y (List.mem_cons_of_mem _ hy)).1, by
      obtain ⟨⟨n, e1⟩, _⟩ := hx
      obtain ⟨⟨k, e2⟩, _⟩ := hl y (List.mem_cons_of_mem _ hy)
      have := h.1 y hy
      omega, (hl y (List.mem_cons_of_mem _ hy)).2.2⟩) with h2 | h2
    · simp; omega
    · subst h2; simp; omega

theorem mayR.may {r : RuleD} (h : mayR r) : (1 ≤ r.freq ∧ r.freq ≤ 4) ∧ (1 ≤ r.interval ∧ r.interval ≤ 999) ∧ (0 ≤ r.start ∧ r.start ≤ 6) ∧ endsMay r := by
  unfold mayR at h
  exact ⟨⟨h.1, h.2.1⟩, ⟨h.2.2.1, h.2.2.2.1⟩, ⟨h.2.2.2.2.2.2.2.2.2.2.2.1, h.2.2.2.2.2.2.2.2.2.2.2.2⟩, h.2.2.2.2.1⟩

theorem startOk.day {start : Int} (h : startOk start) : 0 ≤ start / 1440 ∧ start / 1440 < 109938 := by unfold startOk at h; omega

theorem allT_rise {r : RuleD} {start : Int} (hr : mayR r) (hs : startOk start) : (allT r start).Pairwise (· < ·) :=
  timesF_rise hs.day.1 hs.day.2 hr.may.1 hr.may.2.1.1 _ _
theorem mem_allT {r : RuleD} {start x : Int} (hr : mayR r) (hs : startOk start) (h : x ∈ allT r start) : (∃ n, x = n * 1440 + start % 1440) ∧ start ≤ x ∧ x < 158310720 := by
  obtain ⟨n, h1, h2, _⟩ := mem_timesF hs.day.1 hs.day.2 hr.may.1 hr.may.2.1.1 h
  exact ⟨⟨n, h1⟩, by omega, by omega⟩
theorem filter_none_pre {p : Int → Bool} {pre l : List Int} (h : ∀ x ∈ pre, p x = false) : (pre ++ l).filter p = l.filter p := by
  rw [List.filter_append, List.filter_eq_nil_iff.2 fun x hx => by rw [h x hx]; decide, List.nil_append]
theorem first_times {r : RuleD} {start from_ to_ : Int} (hr : mayR r) (hs : startOk start) : (timesF r (start / 1440) (start % 1440) (firstF r (start / 1440) (min (max from_ 0) 158310720))).filter (fun x => decide (from_ ≤ x) && decide (x < to_)) = someT r start from_ to_ := by
  obtain ⟨hf, ⟨hi1, hi2⟩, hst, he⟩ := hr.may
  obtain ⟨d0, d1⟩ := hs.day
  unfold someT allT
  by_cases hc : 0 < r.count
  · have : firstF r (start / 1440) (min (max from_ 0) 158310720) = 0 := by unfold firstF; rw [if_pos (.inl hc)]
    rw [this]
  · have hb := firstF_bd (r := r) d0 (show 0 ≤ min (max from_ 0) 158310720 by omega) (by omega) hf hi1
    obtain ⟨pre, e, hp⟩ := cand_from (r := r) d0 d1 hf hi1 (firstF r (start / 1440) (min (max from_ 0) 158310720)) (by omega)
    have ra := timesF_rise (r := r) d0 d1 hf hi1 (start % 1440) 0
    unfold timesF at *
    have rc : ∀ k, ((candK r (start / 1440) k).map fun n => n * 1440 + start % 1440).Pairwise (· < ·) := fun k => by
      rw [List.pairwise_map]
      exact List.Pairwise.imp (fun h => by omega) (cand_all d0 d1 hf hi1 _ k).1
    rw [cutG_until hc _ _ (rc _), cutG_until hc _ _ (rc _), e, List.map_append, List.filter_append, filter_none_pre]
    intro x hx
    rw [List.mem_filter, List.mem_map] at hx
    obtain ⟨⟨n, hn, rfl⟩, _⟩ := hx
    have h1 := hp n hn
    have h2 := first_low (r := r) (from_ := min (max from_ 0) 158310720) d0 d1 hf hst hi1 hi2 (by omega) (by omega) h1.1.1 h1.1.2 h1.2
    simp; omega
theorem between_eq {r : RuleD} {start from_ to_ most : Int} (hr : mayR r) (hs : startOk start) (hlt : from_ < to_) (hm : (to_ - from_ - 1) / 1440 + 1 ≤ most) : betweenF r start from_ to_ most = (someT r start from_ to_, true) := by
  obtain ⟨hf, ⟨hi1, hi2⟩, hst, he⟩ := hr.may
  obtain ⟨d0, d1⟩ := hs.day
  unfold betweenF
  by_cases h2 : to_ ≤ start
  · rw [if_pos (.inr (.inr h2))]
    unfold someT
    rw [List.filter_eq_nil_iff.2]
    intro x hx
    have := mem_allT hr hs hx
    simp; omega
  · rw [if_neg (by rw [dec_t ⟨hr, hs⟩]; rintro (h | h | h); · cases h
                   · omega
                   · omega)]
    have hft := first_times (from_ := from_) (to_ := to_) hr hs
    have hcnt : ((someT r start from_ to_).length : Int) ≤ most := by
      have hrise : (someT r start from_ to_).Pairwise (· < ·) := filter_rise (allT_rise hr hs)
      rcases day_count (a := from_) (b := to_) (mi := start % 1440) hrise (fun x hx => by
        unfold someT at hx
        rw [List.mem_filter] at hx
        have h1 := mem_allT hr hs hx.1
        have h2 := hx.2
        simp at h2
        exact ⟨h1.1, h2⟩) with h | h
      · omega
      · rw [h]; simp; omega
    rw [betF_eq _ _ _ _ [] (timesF_rise d0 d1 hf hi1 _ _) (by rw [List.nil_append, hft]; exact hcnt), List.nil_append, hft]
end Go.Proofs.YtechgcjdigpglaaGreat
