/- The times of a rule: its periods' days, as the code takes them and by the number of a day's period. Plain laws; conditions: each theorem's own. -/
import Derived.Test.YtcleicjgeflbnaaGreatH1
import Derived.Test.YtcleicjgeflbnaaGreatR6
namespace Go.Proofs.YtcleicjgeflbnaaGreat
set_option linter.all false

def ints (a b : Int) : List Int := (List.range (b - a).toNat).map fun k : Nat => a + (k : Int)
theorem mem_ints {a b x : Int} : x ∈ ints a b ↔ a ≤ x ∧ x < b := by
  unfold ints
  rw [List.mem_map]
  constructor
  · rintro ⟨k, hk, rfl⟩
    rw [List.mem_range] at hk
    omega
  · rintro ⟨h1, h2⟩
    exact ⟨(x - a).toNat, by rw [List.mem_range]; omega, by omega⟩
theorem ints_rise (a b : Int) : (ints a b).Pairwise (· < ·) := by
  unfold ints
  rw [List.pairwise_map]
  exact List.Pairwise.imp (fun h => by omega) List.pairwise_lt_range
theorem ints_snoc {a b : Int} (h : a ≤ b) : ints a (b + 1) = ints a b ++ [b] := by
  unfold ints
  rw [show (b + 1 - a).toNat = (b - a).toNat + 1 by omega, List.range_succ, List.map_append]
  congr 1
  simp only [List.map_cons, List.map_nil]
  congr 1
  omega
theorem ints_cons {a b : Int} (h : a < b) : ints a b = a :: ints (a + 1) b := by
  unfold ints
  rw [show (b - a).toNat = (b - (a + 1)).toNat + 1 by omega, List.range_succ_eq_map, List.map_cons, List.map_map]
  congr 1
  · omega
  · apply List.map_congr_left
    intro k _
    simp only [Function.comp]
    omega
theorem ints_none {a b : Int} (h : b ≤ a) : ints a b = [] := by
  unfold ints
  rw [show (b - a).toNat = 0 by omega]
  rfl
theorem rise_ext : ∀ {l m : List Int}, l.Pairwise (· < ·) → m.Pairwise (· < ·) → (∀ x, x ∈ l ↔ x ∈ m) → l = m
  | [], [], _, _, _ => rfl
  | [], y :: m, _, _, h => absurd ((h y).2 (List.mem_cons_self ..)) (by simp)
  | x :: l, [], _, _, h => absurd ((h x).1 (List.mem_cons_self ..)) (by simp)
  | x :: l, y :: m, hl, hm, h => by
    rw [List.pairwise_cons] at hl hm
    have e : x = y := by
      have h1 := (h x).1 (List.mem_cons_self ..)
      have h2 := (h y).2 (List.mem_cons_self ..)
      rw [List.mem_cons] at h1 h2
      rcases h1 with h1 | h1
      · exact h1
      · rcases h2 with h2 | h2
        · exact h2.symm
        · have a := hm.1 x h1; have b := hl.1 y h2; omega
    subst e
    rw [rise_ext hl.2 hm.2 fun z => ?_]
    constructor
    · intro hz
      have := (h z).1 (List.mem_cons_of_mem _ hz)
      rw [List.mem_cons] at this
      rcases this with rfl | this
      · exact absurd (hl.1 _ hz) (Int.lt_irrefl _)
      · exact this
    · intro hz
      have := (h z).2 (List.mem_cons_of_mem _ hz)
      rw [List.mem_cons] at this
      rcases this with rfl | this
      · exact absurd (hm.1 _ hz) (Int.lt_irrefl _)
      · exact this

/-- The date of the next day. -/
theorem date_next (n : Int) (h0 : 0 ≤ n) (h1 : n + 1 < 109938) : (dateY (n + 1) = dateY n ∧ dateM (n + 1) = dateM n ∧ dD (n + 1) = dD n + 1 ∧ dD n < lenM (dateY n) (dateM n)) ∨
    (dD n = lenM (dateY n) (dateM n) ∧ dD (n + 1) = 1 ∧ (dateM n < 12 ∧ dateM (n + 1) = dateM n + 1 ∧ dateY (n + 1) = dateY n ∨ dateM n = 12 ∧ dateM (n + 1) = 1 ∧ dateY (n + 1) = dateY n + 1)) := by
  obtain ⟨hv, hn, m1, m2⟩ := date_valid n h0 (by omega)
  obtain ⟨v1, v2, v3, v4⟩ := hv
  by_cases hd : dD n < lenM (dateY n) (dateM n)
  · have hv2 : validD (dateY n) (dateM n) (dD n + 1) := ⟨v1, v2, by omega, by omega⟩
    have e : numD (dateY n) (dateM n) (dD n + 1) = n + 1 := by unfold numD at hn ⊢; omega
    have := date_of_num _ _ _ hv2 ⟨m1, m2⟩
    rw [e] at this
    exact .inl ⟨this.1, this.2.1, this.2.2, hd⟩
  · have hd' : dD n = lenM (dateY n) (dateM n) := by omega
    refine .inr ⟨hd', ?_⟩
    have hc := numD_cum (dateY n) (dateM n) (dD n)
    by_cases hm : dateM n < 12
    · have hs := cumM_step (dateY n) (dateM n) m1 hm
      have e : numD (dateY n) (dateM n + 1) 1 = n + 1 := by rw [numD_cum]; omega
      have hl : 1 ≤ lenM (dateY n) (dateM n + 1) := by
        have := leapN_bd (dateY n)
        unfold lenM
        split
        · omega
        · split
          · omega
          · rw [if_pos (by omega)]; omega
      have := date_of_num _ _ _ ⟨v1, v2, by omega, hl⟩ (show 1 ≤ dateM n + 1 ∧ dateM n + 1 ≤ 12 by omega)
      rw [e] at this
      exact ⟨this.2.2, .inl ⟨hm, this.2.1, this.1⟩⟩
    · have hm12 : dateM n = 12 := by omega
      have hy := cum_year (dateY n)
      have hb := dby_step (dateY n)
      rw [hm12] at hc hd'
      have e : numD (dateY n + 1) 1 1 = n + 1 := by rw [numD_cum, cumM_0]; rw [hm12] at hn; omega
      have hy2 : dateY n ≠ 2200 := by
        intro h
        rw [h] at e
        have : numD (2200 + 1) 1 1 = 109938 := by decide
        omega
      have := date_of_num (dateY n + 1) 1 1 ⟨by omega, by omega, by omega, by show (1 : Int) ≤ 31; omega⟩ (by omega)
      rw [e] at this
      exact ⟨this.2.2, .inr ⟨hm12, this.2.1, this.1⟩⟩

def nthP (l : List DayND) (n : Int) : Prop := ∃ x ∈ l, x.day = n % 7 ∧ (x.n = 0 ∨ x.n = (dD n - 1) / 7 + 1 ∨ x.n = -((lenM (dateY n) (dateM n) - dD n) / 7 + 1))
/-- Is a day as the rule's rows say. -/
def rightP (r : RuleD) (n : Int) : Prop :=
  (r.byMonth = [] ∨ dateM n ∈ r.byMonth) ∧ (r.byMonthDay = [] ∨ dD n ∈ r.byMonthDay ∨ dD n - lenM (dateY n) (dateM n) - 1 ∈ r.byMonthDay) ∧ (r.byDay = [] ∨ nthP r.byDay n)
def plainP (r : RuleD) : Prop := r.byMonthDay = [] ∧ r.byDay = []
/-- Is a day as the start says, where the rows say nothing. -/
def usualP (r : RuleD) (s n : Int) : Prop :=
  (r.freq = 2 → plainP r → n % 7 = s % 7) ∧ (r.freq = 3 → plainP r → dD n = dD s) ∧ (r.freq = 4 → plainP r → dD n = dD s ∧ (r.byMonth ≠ [] ∨ dateM n = dateM s))
def okP (r : RuleD) (s n : Int) : Prop := rightP r n ∧ usualP r s n
/-- Of the calendar's days from one on, ahead of another one, those that are right. -/
noncomputable def daysF (r : RuleD) (s a b : Int) : List Int := (ints (max a 0) b).filter fun n => dec (n < 109938 ∧ okP r s n)
open Classical in
noncomputable def monthF (r : RuleD) (s y m : Int) : List Int := if validD y m 1 ∧ (r.byMonth = [] ∨ m ∈ r.byMonth) then daysF r s (numD y m 1) (numD y m 1 + lenM y m) else []
def weekLo (r : RuleD) (s x : Int) : Int := s - (s % 7 - r.start) % 7 + 7 * x
def monthNo (s x : Int) : Int := 12 * dateY s + dateM s - 1 + x
/-- The days of a period that are right; x: its number times the interval. -/
noncomputable def periodF (r : RuleD) (s x : Int) : List Int :=
  if r.freq = 1 then daysF r s (s + x) (s + x + 1)
  else if r.freq = 2 then daysF r s (weekLo r s x) (weekLo r s x + 7)
  else if r.freq = 3 then monthF r s (monthNo s x / 12) (monthNo s x % 12 + 1)
  else (List.range 12).flatMap fun m : Nat => monthF r s (dateY s + x) ((m : Int) + 1)
/-- Are there days of a period, or behind it. -/
def moreP (r : RuleD) (s x : Int) : Prop :=
  if r.freq = 1 then s + x < 109938
  else if r.freq = 2 then weekLo r s x < 109938
  else if r.freq = 3 then monthNo s x / 12 ≤ 2200
  else dateY s + x ≤ 2200
/-- The number of a day's period. -/
def perP (r : RuleD) (s n : Int) : Int :=
  if r.freq = 1 then n - s
  else if r.freq = 2 then (n - s + (s % 7 - r.start) % 7) / 7
  else if r.freq = 3 then 12 * (dateY n - dateY s) + dateM n - dateM s
  else dateY n - dateY s
noncomputable def perDays (r : RuleD) (s p : Int) : List Int := (ints 0 109938).filter fun n => dec (perP r s n = p ∧ okP r s n)

theorem filter_rise {p : Int → Bool} {l : List Int} (h : l.Pairwise (· < ·)) : (l.filter p).Pairwise (· < ·) := h.filter _
theorem daysF_rise (r : RuleD) (s a b : Int) : (daysF r s a b).Pairwise (· < ·) := filter_rise (ints_rise _ _)
theorem mem_daysF {r : RuleD} {s a b x : Int} : x ∈ daysF r s a b ↔ (a ≤ x ∧ 0 ≤ x ∧ x < b) ∧ x < 109938 ∧ okP r s x := by
  unfold daysF
  rw [List.mem_filter, mem_ints, dec_iff]
  constructor
  · rintro ⟨h1, h2⟩; exact ⟨by omega, h2⟩
  · rintro ⟨h1, h2⟩; exact ⟨by omega, h2⟩
theorem perDays_rise (r : RuleD) (s p : Int) : (perDays r s p).Pairwise (· < ·) := filter_rise (ints_rise _ _)
theorem mem_perDays {r : RuleD} {s p x : Int} : x ∈ perDays r s p ↔ (0 ≤ x ∧ x < 109938) ∧ perP r s x = p ∧ okP r s x := by
  unfold perDays
  rw [List.mem_filter, mem_ints, dec_iff]
theorem lenM_pos {y m : Int} (h1 : 1 ≤ m) (h2 : m ≤ 12) : 28 ≤ lenM y m := by
  have := leapN_bd y
  unfold lenM
  split
  · omega
  · split
    · omega
    · rw [if_pos (by omega)]; omega
/-- A day is one of a month's days just if that is its month. -/
theorem in_month {y m n : Int} (hv : 1900 ≤ y) (hv2 : y ≤ 2200) (h1 : 1 ≤ m) (h2 : m ≤ 12) (h0 : 0 ≤ n) (hn : n < 109938) : (numD y m 1 ≤ n ∧ n < numD y m 1 + lenM y m) ↔ dateY n = y ∧ dateM n = m := by
  have hd := date_valid n h0 hn
  constructor
  · rintro ⟨q1, q2⟩
    have hv' : validD y m (n - numD y m 1 + 1) := ⟨hv, hv2, by omega, by omega⟩
    have e : numD y m (n - numD y m 1 + 1) = n := by unfold numD; omega
    have := date_of_num _ _ _ hv' ⟨h1, h2⟩
    rw [e] at this
    exact ⟨this.1, this.2.1⟩
  · rintro ⟨rfl, rfl⟩
    have := hd.2.1
    have := hd.1
    unfold validD at this
    unfold numD at *
    omega
theorem monthF_rise (r : RuleD) (s y m : Int) : (monthF r s y m).Pairwise (· < ·) := by
  unfold monthF
  split
  · exact daysF_rise _ _ _ _
  · exact List.Pairwise.nil
theorem mem_monthF {r : RuleD} {s y m x : Int} (h1 : 1 ≤ m) (h2 : m ≤ 12) (hy : 1900 ≤ y) : x ∈ monthF r s y m ↔ (0 ≤ x ∧ x < 109938) ∧ (dateY x = y ∧ dateM x = m) ∧ okP r s x := by
  have hlen := @lenM_pos y m h1 h2
  unfold monthF
  by_cases hy2 : y ≤ 2200
  · by_cases hb : r.byMonth = [] ∨ m ∈ r.byMonth
    · rw [if_pos ⟨⟨hy, hy2, by omega, by omega⟩, hb⟩, mem_daysF]
      constructor
      · rintro ⟨q1, q2, q3⟩
        exact ⟨by omega, (in_month hy hy2 h1 h2 q1.2.1 q2).1 (by omega), q3⟩
      · rintro ⟨q1, q2, q3⟩
        have := (in_month hy hy2 h1 h2 q1.1 q1.2).2 q2
        exact ⟨by omega, q1.2, q3⟩
    · rw [if_neg (fun h => hb h.2)]
      simp only [List.not_mem_nil, false_iff]
      rintro ⟨q1, q2, q3⟩
      exact hb (q2.2 ▸ q3.1.1)
  · rw [if_neg (fun h => hy2 h.1.2.1)]
    simp only [List.not_mem_nil, false_iff]
    rintro ⟨q1, q2, q3⟩
    have := (date_valid x q1.1 q1.2).1
    unfold validD at this
    omega
theorem periodF_rise (r : RuleD) (s x : Int) (hs0 : 0 ≤ s) (hs1 : s < 109938) (hx : 0 ≤ x) : (periodF r s x).Pairwise (· < ·) := by
  unfold periodF
  split
  · exact daysF_rise _ _ _ _
  split
  · exact daysF_rise _ _ _ _
  split
  · exact monthF_rise _ _ _ _
  · rw [List.pairwise_flatMap]
    refine ⟨fun m _ => monthF_rise _ _ _ _, ?_⟩
    have hy := (date_valid s hs0 hs1).1.1
    refine List.pairwise_lt_range.imp_of_mem fun {a b} ha hb hab u hu v hv => ?_
    rw [List.mem_range] at ha hb
    rw [mem_monthF (by omega) (by omega) (by omega)] at hu hv
    by_cases h : u < v
    · exact h
    · exfalso
      by_cases e : u = v
      · subst e; omega
      · have := date_lt v u hv.1 hu.1 (by omega); omega
theorem period_days {r : RuleD} {s x : Int} (hs0 : 0 ≤ s) (hs1 : s < 109938) (hx : 0 ≤ x) (hf : 1 ≤ r.freq ∧ r.freq ≤ 4) : periodF r s x = perDays r s x := by
  refine rise_ext (periodF_rise r s x hs0 hs1 hx) (perDays_rise r s x) fun n => ?_
  rw [mem_perDays]
  obtain ⟨hv, -, m1, m2⟩ := date_valid s hs0 hs1
  have hy := hv.1
  unfold periodF perP
  split
  · rw [mem_daysF]
    constructor
    · rintro ⟨a, b, c⟩; exact ⟨by omega, by omega, c⟩
    · rintro ⟨a, b, c⟩; exact ⟨by omega, by omega, c⟩
  split
  · rw [mem_daysF]
    unfold weekLo
    constructor
    · rintro ⟨a, b, c⟩; exact ⟨by omega, by omega, c⟩
    · rintro ⟨a, b, c⟩; exact ⟨by omega, by omega, c⟩
  split
  · unfold monthNo
    rw [mem_monthF (by omega) (by omega) (by omega)]
    constructor
    · rintro ⟨a, b, c⟩; exact ⟨a, by omega, c⟩
    · rintro ⟨a, b, c⟩
      obtain ⟨-, -, n1, n2⟩ := date_valid n a.1 a.2
      exact ⟨a, by omega, c⟩
  · rw [List.mem_flatMap]
    constructor
    · rintro ⟨m, hm, h⟩
      rw [List.mem_range] at hm
      rw [mem_monthF (by omega) (by omega) (by omega)] at h
      exact ⟨h.1, by omega, h.2.2⟩
    · rintro ⟨a, b, c⟩
      obtain ⟨-, -, n1, n2⟩ := date_valid n a.1 a.2
      refine ⟨(dateM n - 1).toNat, by rw [List.mem_range]; omega, ?_⟩
      rw [mem_monthF (by omega) (by omega) (by omega)]
      exact ⟨a, by omega, c⟩
theorem perP_none {r : RuleD} {s x n : Int} (hs0 : 0 ≤ s) (hs1 : s < 109938) (hm : ¬ moreP r s x) (h0 : 0 ≤ n) (h1 : n < 109938) : perP r s n < x := by
  obtain ⟨hv, -, m1, m2⟩ := date_valid n h0 h1
  obtain ⟨hu, -, k1, k2⟩ := date_valid s hs0 hs1
  have hy := hv.2.1
  unfold moreP weekLo monthNo at hm
  unfold perP
  split
  · rename_i h; rw [if_pos h] at hm; omega
  rename_i h; rw [if_neg h] at hm
  split
  · rename_i h; rw [if_pos h] at hm; omega
  rename_i h; rw [if_neg h] at hm
  split
  · rename_i h; rw [if_pos h] at hm; omega
  · rename_i h; rw [if_neg h] at hm; omega
theorem moreP_bd {r : RuleD} {s x : Int} (hs0 : 0 ≤ s) (hs1 : s < 109938) (hm : moreP r s x) : x < 110000 := by
  obtain ⟨hv, -, m1, m2⟩ := date_valid s hs0 hs1
  have := hv.1
  unfold moreP weekLo monthNo at hm
  split at hm
  · omega
  split at hm
  · omega
  split at hm
  · omega
  · omega
theorem moreP_mono {r : RuleD} {s x y : Int} (h : x ≤ y) (hm : moreP r s y) : moreP r s x := by
  unfold moreP weekLo monthNo at *
  split
  · rename_i h; rw [if_pos h] at hm; omega
  rename_i h; rw [if_neg h] at hm
  split
  · rename_i h; rw [if_pos h] at hm; omega
  rename_i h; rw [if_neg h] at hm
  split
  · rename_i h; rw [if_pos h] at hm; omega
  · rename_i h; rw [if_neg h] at hm; omega
theorem perP_mono {r : RuleD} {s a b : Int} (h0 : 0 ≤ a) (hab : a ≤ b) (h1 : b < 109938) : perP r s a ≤ perP r s b := by
  have hd : dateY a < dateY b ∨ dateY a = dateY b ∧ dateM a ≤ dateM b := by
    by_cases e : a = b
    · subst e; exact .inr ⟨rfl, Int.le_refl _⟩
    · have := date_lt a b ⟨h0, by omega⟩ ⟨by omega, h1⟩ (by omega); omega
  obtain ⟨-, -, m1, m2⟩ := date_valid a h0 (by omega)
  obtain ⟨-, -, k1, k2⟩ := date_valid b (by omega) h1
  unfold perP
  split
  · omega
  split
  · omega
  split
  · omega
  · omega
theorem perP_step {r : RuleD} {s n : Int} (h0 : 0 ≤ n) (h1 : n + 1 < 109938) : perP r s (n + 1) ≤ perP r s n + 1 := by
  have hd := date_next n h0 h1
  obtain ⟨-, -, m1, m2⟩ := date_valid n h0 (by omega)
  unfold perP
  split
  · omega
  split
  · omega
  split
  · omega
  · omega
theorem perP_start {r : RuleD} {s : Int} : perP r s s = 0 := by
  unfold perP
  split
  · omega
  split
  · omega
  split
  · omega
  · omega
end Go.Proofs.YtcleicjgeflbnaaGreat
