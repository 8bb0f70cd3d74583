/- Zones: the minute of a local time, by what turns add. Plain laws; no condition. -/
import Derived.Test.YtechgcjdigpglaaGreatG2
namespace Go.Proofs.YtechgcjdigpglaaGreat
set_option linter.all false

structure ZoneD where
  base : Int
  turns : List TurnD

def risesF {α : Type} (f : α → Int) (xs : List α) : Prop := ∀ (i : Nat) (a b : α), xs[i]? = some a → xs[i + 1]? = some b → f a < f b
theorem rises_lt {α : Type} {f : α → Int} {xs : List α} (h : risesF f xs) : ∀ (d i : Nat) (a b : α), xs[i]? = some a → xs[i + d + 1]? = some b → f a < f b
  | 0, i, a, b, ha, hb => h i a b ha hb
  | d + 1, i, a, b, ha, hb => by
    have hl := (List.getElem?_eq_some_iff.1 hb).1
    have hc : xs[i + d + 1]? = some (xs[i + d + 1]'(by omega)) := List.getElem?_eq_getElem (by omega)
    exact Int.lt_trans (rises_lt h d i a _ ha hc) (h (i + d + 1) _ b hc hb)
theorem rises_le {α : Type} {f : α → Int} {xs : List α} (h : risesF f xs) {i j : Nat} (hij : i ≤ j) {a b : α} (ha : xs[i]? = some a) (hb : xs[j]? = some b) : f a ≤ f b := by
  by_cases e : i = j
  · subst e; rw [ha] at hb; cases hb; exact Int.le_refl _
  · have := rises_lt h (j - i - 1) i a b ha (by rw [show i + (j - i - 1) + 1 = j by omega]; exact hb)
    omega

/-- How many turns aren't behind a minute. -/
def behindZ (xs : List TurnD) (u : Int) : Nat := xs.countP fun t => decide (t.at_ ≤ u)
/-- What is added behind so many turns. -/
def addedZ (z : ZoneD) (n : Nat) : Int := if n = 0 then z.base else ((z.turns[n - 1]?).map (·.off)).getD 0
theorem count_split {α : Type} (p : α → Bool) : ∀ (xs : List α) (k : Nat), k ≤ xs.length → (∀ (t : Nat) x, t < k → xs[t]? = some x → p x = true) → (∀ (t : Nat) x, k ≤ t → xs[t]? = some x → p x = false) → xs.countP p = k
  | [], k, h, _, _ => by simp at h; simp [h]
  | y :: r, 0, h, _, h2 => by
    have e := h2 0 y (Nat.le_refl _) rfl
    have ih := count_split p r 0 (Nat.zero_le _) (fun t x ht => absurd ht (by omega)) (fun t x _ hx => h2 (t + 1) x (by omega) (by simpa using hx))
    rw [List.countP_cons, ih, e]
    rfl
  | y :: r, k + 1, h, h1, h2 => by
    have e := h1 0 y (by omega) rfl
    have ih := count_split p r k (by simpa using h) (fun t x ht hx => h1 (t + 1) x (by omega) (by simpa using hx)) (fun t x ht hx => h2 (t + 1) x (by omega) (by simpa using hx))
    rw [List.countP_cons, ih, e]
    rfl
theorem behindZ_le (xs : List TurnD) (u : Int) : behindZ xs u ≤ xs.length := List.countP_le_length
theorem behindZ_mono (xs : List TurnD) {a b : Int} (h : a ≤ b) : behindZ xs a ≤ behindZ xs b := by
  unfold behindZ
  refine List.countP_mono_left fun x _ hx => ?_
  simp only [decide_eq_true_eq] at hx ⊢
  omega
theorem count_ex {α : Type} (p : α → Bool) : ∀ (xs : List α), (∀ (i : Nat) a b, xs[i]? = some a → xs[i + 1]? = some b → p b = true → p a = true) → ∀ (t : Nat) x, xs[t]? = some x → (p x = true ↔ t < xs.countP p)
  | [], _, t, x, hx => by simp at hx
  | y :: r, h, t, x, hx => by
    have ih := count_ex p r (fun i a b ha hb => h (i + 1) a b (by simpa using ha) (by simpa using hb))
    rw [List.countP_cons]
    by_cases hy : p y = true
    · rw [if_pos hy]
      cases t with
      | zero => simp at hx; subst hx; simp [hy]
      | succ t => rw [ih t x (by simpa using hx)]; omega
    · have hall : ∀ (t : Nat) x, (y :: r)[t]? = some x → ¬ p x = true := by
        intro t
        induction t with
        | zero => intro x hx; simp at hx; subst hx; exact hy
        | succ t iht =>
          intro x hx hp
          have hl := (List.getElem?_eq_some_iff.1 hx).1
          exact iht _ (List.getElem?_eq_getElem (by omega)) (h t _ x (List.getElem?_eq_getElem (by omega)) hx hp)
      have h0 : r.countP p = 0 := by
        rw [List.countP_eq_zero]
        intro a ha
        obtain ⟨i, hi⟩ := List.getElem?_of_mem ha
        exact hall (i + 1) a (by simpa using hi)
      rw [if_neg hy, h0]
      exact ⟨fun hp => absurd hp (hall t x hx), fun hlt => absurd hlt (by omega)⟩
theorem behind_lt {xs : List TurnD} (hr : risesF (·.at_) xs) {t : Nat} {x : TurnD} (hx : xs[t]? = some x) (u : Int) : t < behindZ xs u ↔ x.at_ ≤ u := by
  unfold behindZ
  rw [← count_ex (fun t => decide (t.at_ ≤ u)) xs (fun i a b ha hb hp => by have : a.at_ < b.at_ := hr i a b ha hb; simp at hp ⊢; omega) t x hx]
  simp

def turnOne (t : TurnD) : Prop := -900 ≤ t.off ∧ t.off ≤ 900 ∧ 0 ≤ t.at_ ∧ t.at_ ≤ 158310720
def gapTo (xs : List TurnD) (k : Nat) : Prop := ∀ (i : Nat) (a b : TurnD), i + 1 < k → xs[i]? = some a → xs[i + 1]? = some b → a.at_ + 2880 ≤ b.at_
/-- May a zone be? -/
def mayZ (z : ZoneD) : Prop := -900 ≤ z.base ∧ z.base ≤ 900 ∧ z.turns.length ≤ 700 ∧ (∀ t ∈ z.turns, turnOne t) ∧ gapTo z.turns z.turns.length
theorem gapTo.step {xs : List TurnD} {j : Nat} {x y : TurnD} (h : gapTo xs (j + 1)) (hx : xs[j]? = some x) (hy : xs[j + 1]? = some y) (hxy : x.at_ + 2880 ≤ y.at_) : gapTo xs (j + 1 + 1) := fun i a b hi ha hb => by
  by_cases e : i = j
  · subst e; rw [hx] at ha; rw [hy] at hb; cases ha; cases hb; exact hxy
  · exact h i a b (by omega) ha hb
theorem mayZ.rises {z : ZoneD} (h : mayZ z) : risesF (·.at_) z.turns := fun i a b ha hb => by
  show a.at_ < b.at_
  have := h.2.2.2.2 i a b (by have := (List.getElem?_eq_some_iff.1 hb).1; omega) ha hb
  omega
theorem mayZ.added {z : ZoneD} (h : mayZ z) (n : Nat) (hn : n ≤ z.turns.length) : -900 ≤ addedZ z n ∧ addedZ z n ≤ 900 := by
  unfold addedZ
  split
  · exact ⟨h.1, h.2.1⟩
  · have hl : n - 1 < z.turns.length := by omega
    rw [List.getElem?_eq_getElem hl]
    have := h.2.2.2.1 _ (List.getElem_mem hl)
    exact ⟨this.1, this.2.1⟩
theorem mayZ.gap {z : ZoneD} (h : mayZ z) {i j : Nat} (hij : i < j) {a b : TurnD} (ha : z.turns[i]? = some a) (hb : z.turns[j]? = some b) : a.at_ + 2880 ≤ b.at_ := by
  have hl := (List.getElem?_eq_some_iff.1 hb).1
  have hc : z.turns[i + 1]? = some (z.turns[i + 1]'(by omega)) := List.getElem?_eq_getElem (by omega)
  have h1 := h.2.2.2.2 i a _ (by omega) ha hc
  have h2 : (z.turns[i + 1]'(by omega)).at_ ≤ b.at_ := rises_le h.rises (show i + 1 ≤ j by omega) hc hb
  omega
/-- What is added at a minute. -/
def offZ (z : ZoneD) (u : Int) : Int := addedZ z (behindZ z.turns u)
theorem mayZ.off {z : ZoneD} (h : mayZ z) (u : Int) : -900 ≤ offZ z u ∧ offZ z u ≤ 900 := h.added _ (behindZ_le _ _)
/-- A minute of which a local time comes, by what is added behind so many turns. -/
def minZ (z : ZoneD) (l : Int) (n : Nat) : Int := l - addedZ z n
def candZ (z : ZoneD) (l : Int) (n : Nat) : Bool := decide (behindZ z.turns (minZ z l n) = n)
/-- What is found among so many candidates from one on: the first one, how many. -/
def scanZ (z : ZoneD) (l : Int) (lo : Nat) : Nat → Int × Nat
  | 0 => (0, 0)
  | d + 1 => if candZ z l (lo + d) then (if (scanZ z l lo d).2 = 0 then minZ z l (lo + d) else (scanZ z l lo d).1, (scanZ z l lo d).2 + 1) else scanZ z l lo d
def jumpZ (z : ZoneD) (l : Int) (n : Nat) : Bool := decide (n < behindZ z.turns (minZ z l n)) && decide (behindZ z.turns (minZ z l (n + 1)) ≤ n)
/-- The first jump from a number of turns on, so many tried. -/
def gapZ (z : ZoneD) (l : Int) (lo : Nat) : Nat → Nat → Int
  | _, 0 => minZ z l lo
  | n, d + 1 => if jumpZ z l n then minZ z l n else gapZ z l lo (n + 1) d
def loZ (z : ZoneD) (l : Int) : Nat := behindZ z.turns (l - 901)
def hiZ (z : ZoneD) (l : Int) : Nat := behindZ z.turns (l + 901)
/-- The minute of a local time, if it were one. -/
def atZ (z : ZoneD) (l : Int) : Int := if (scanZ z l (loZ z l) (hiZ z l + 1 - loZ z l)).2 = 0 then gapZ z l (loZ z l) (loZ z l) (hiZ z l - loZ z l) else (scanZ z l (loZ z l) (hiZ z l + 1 - loZ z l)).1
theorem scanZ_le (z : ZoneD) (l : Int) (lo : Nat) : ∀ d, (scanZ z l lo d).2 ≤ d
  | 0 => Nat.le_refl _
  | d + 1 => by
    have ih := scanZ_le z l lo d
    rw [scanZ]
    split
    · simp only; omega
    · omega
theorem lohi (z : ZoneD) (l : Int) : loZ z l ≤ hiZ z l := behindZ_mono _ (by omega)

/-- Is it the minute of a local time: the first one of which it comes, or in a gap by what was added ahead. -/
def UtcIs (z : ZoneD) (l a : Int) : Prop :=
  (a + offZ z a = l ∧ ∀ u, u < a → u + offZ z u ≠ l) ∨
  ((∀ u, u + offZ z u ≠ l) ∧ ∃ (i : Nat) (t : TurnD), z.turns[i]? = some t ∧ t.at_ + addedZ z i ≤ l ∧ l < t.at_ + addedZ z (i + 1) ∧ a = l - addedZ z i)
theorem UtcIs.uniq {z : ZoneD} {l a b : Int} (hm : mayZ z) (ha : UtcIs z l a) (hb : UtcIs z l b) : a = b := by
  rcases ha with ⟨h1, h2⟩ | ⟨h1, i, t, h2, h3, h4, h5⟩ <;> rcases hb with ⟨g1, g2⟩ | ⟨g1, j, s, g2, g3, g4, g5⟩
  · by_cases h : a < b
    · exact absurd h1 (g2 a h)
    · by_cases h' : b < a
      · exact absurd g1 (h2 b h')
      · omega
  · exact absurd h1 (g1 a)
  · exact absurd g1 (h1 b)
  · have il := (List.getElem?_eq_some_iff.1 h2).1
    have jl := (List.getElem?_eq_some_iff.1 g2).1
    have a1 := hm.added i (by omega)
    have a2 := hm.added (i + 1) (by omega)
    have a3 := hm.added j (by omega)
    have a4 := hm.added (j + 1) (by omega)
    by_cases e : i = j
    · subst e; omega
    · by_cases hij : i < j
      · have := hm.gap hij h2 g2; omega
      · have := hm.gap (show j < i by omega) g2 h2; omega

theorem scanZ_none {z : ZoneD} {l : Int} {lo : Nat} : ∀ d, (scanZ z l lo d).2 = 0 → ∀ k, k < d → candZ z l (lo + k) = false
  | 0, _, k, hk => absurd hk (Nat.not_lt_zero _)
  | d + 1, h, k, hk => by
    rw [scanZ] at h
    split at h
    · simp at h
    · rename_i hc
      by_cases e : k = d
      · subst e; simpa using hc
      · exact scanZ_none d h k (by omega)
theorem scanZ_some {z : ZoneD} {l : Int} {lo : Nat} : ∀ d, (scanZ z l lo d).2 ≠ 0 → ∃ k, k < d ∧ candZ z l (lo + k) = true ∧ (scanZ z l lo d).1 = minZ z l (lo + k) ∧ ∀ j, j < k → candZ z l (lo + j) = false
  | 0, h => absurd rfl h
  | d + 1, h => by
    rw [scanZ] at h ⊢
    split
    · rename_i hc
      by_cases h0 : (scanZ z l lo d).2 = 0
      · exact ⟨d, by omega, hc, by rw [if_pos h0], scanZ_none d h0⟩
      · obtain ⟨k, a1, a2, a3, a4⟩ := scanZ_some d h0
        exact ⟨k, by omega, a2, by rw [if_neg h0]; exact a3, a4⟩
    · rename_i hc
      rw [if_neg hc] at h
      obtain ⟨k, a1, a2, a3, a4⟩ := scanZ_some d h
      exact ⟨k, by omega, a2, a3, a4⟩
theorem gapZ_some {z : ZoneD} {l : Int} {lo : Nat} : ∀ (d n k : Nat), n ≤ k → k < n + d → jumpZ z l k = true → ∃ j, n ≤ j ∧ j < n + d ∧ jumpZ z l j = true ∧ gapZ z l lo n d = minZ z l j
  | 0, n, k, h1, h2, _ => absurd h2 (by omega)
  | d + 1, n, k, h1, h2, hj => by
    rw [gapZ]
    by_cases hn : jumpZ z l n = true
    · exact ⟨n, Nat.le_refl _, by omega, hn, by rw [if_pos hn]⟩
    · have : n ≠ k := fun e => hn (e ▸ hj)
      obtain ⟨j, a1, a2, a3, a4⟩ := gapZ_some (lo := lo) d (n + 1) k (by omega) (by omega) hj
      exact ⟨j, by omega, by omega, a3, by rw [if_neg hn]; exact a4⟩
theorem cand_of {z : ZoneD} {l u : Int} (h : u + offZ z u = l) : minZ z l (behindZ z.turns u) = u ∧ candZ z l (behindZ z.turns u) = true := by
  have e : minZ z l (behindZ z.turns u) = u := by unfold minZ; unfold offZ at h; omega
  exact ⟨e, by unfold candZ; rw [e]; simp⟩
theorem of_cand {z : ZoneD} {l : Int} {n : Nat} (h : candZ z l n = true) : behindZ z.turns (minZ z l n) = n ∧ minZ z l n + offZ z (minZ z l n) = l := by
  unfold candZ at h
  have h := of_decide_eq_true h
  exact ⟨h, by unfold offZ; rw [h]; unfold minZ; omega⟩
theorem hit_near {z : ZoneD} {l u : Int} (hm : mayZ z) (h : u + offZ z u = l) : l - 900 ≤ u ∧ u ≤ l + 900 := by
  have := hm.off u; omega
/-- Where no minute gives the local time the clock jumps over it. -/
theorem jump_ex {z : ZoneD} {l : Int} (hm : mayZ z) (hno : ∀ u, u + offZ z u ≠ l) : ∃ (i : Nat) (t : TurnD), z.turns[i]? = some t ∧ t.at_ + addedZ z i ≤ l ∧ l < t.at_ + addedZ z (i + 1) ∧ loZ z l ≤ i ∧ i < hiZ z l := by
  have key : ∀ d : Nat, l < (l - 901 + (d : Int)) + offZ z (l - 901 + (d : Int)) → ∃ u, l - 901 ≤ u ∧ u < l - 901 + (d : Int) ∧ u + offZ z u < l ∧ l < u + 1 + offZ z (u + 1) := by
    intro d
    induction d with
    | zero => intro h; have := hm.off (l - 901); simp at h; omega
    | succ d ih =>
      intro h
      by_cases hd : l < (l - 901 + (d : Int)) + offZ z (l - 901 + (d : Int))
      · obtain ⟨u, a, b, c, e⟩ := ih hd
        exact ⟨u, a, by omega, c, e⟩
      · have := hno (l - 901 + (d : Int))
        exact ⟨l - 901 + (d : Int), by omega, by omega, by omega, by rw [show l - 901 + (d : Int) + 1 = l - 901 + ((d + 1 : Nat) : Int) by omega]; exact h⟩
  obtain ⟨u, u1, u2, u3, u4⟩ := key 1802 (by have := hm.off (l - 901 + ((1802 : Nat) : Int)); omega)
  have hmono := behindZ_mono z.turns (show u ≤ u + 1 by omega)
  have hne : behindZ z.turns u ≠ behindZ z.turns (u + 1) := fun e => by unfold offZ at u3 u4; rw [← e] at u4; omega
  have hle := behindZ_le z.turns (u + 1)
  obtain ⟨t, ht⟩ : ∃ t, z.turns[behindZ z.turns u]? = some t := ⟨_, List.getElem?_eq_getElem (by omega)⟩
  have t1 := (behind_lt hm.rises ht (u + 1)).1 (by omega)
  have t2 : ¬ t.at_ ≤ u := fun h => absurd ((behind_lt hm.rises ht u).2 h) (Nat.lt_irrefl _)
  have hone : behindZ z.turns (u + 1) = behindZ z.turns u + 1 := by
    by_cases h : behindZ z.turns u + 1 < behindZ z.turns (u + 1)
    · obtain ⟨s, hs⟩ : ∃ s, z.turns[behindZ z.turns u + 1]? = some s := ⟨_, List.getElem?_eq_getElem (by omega)⟩
      have s1 := (behind_lt hm.rises hs (u + 1)).1 h
      have s2 := hm.gap (Nat.lt_succ_self _) ht hs
      omega
    · omega
  refine ⟨behindZ z.turns u, t, ht, ?_, ?_, ?_, ?_⟩
  · unfold offZ at u3; omega
  · unfold offZ at u4; rw [hone] at u4; omega
  · exact behindZ_mono _ u1
  · have : behindZ z.turns (u + 1) ≤ hiZ z l := behindZ_mono _ (by omega)
    omega
theorem atZ_is {z : ZoneD} (hm : mayZ z) (l : Int) : UtcIs z l (atZ z l) := by
  unfold atZ
  by_cases h0 : (scanZ z l (loZ z l) (hiZ z l + 1 - loZ z l)).2 = 0
  · rw [if_pos h0]
    have hn := scanZ_none _ h0
    have hno : ∀ u, u + offZ z u ≠ l := fun u hu => by
      have hb := hit_near hm hu
      have h1 : loZ z l ≤ behindZ z.turns u := behindZ_mono _ (by omega)
      have h2 : behindZ z.turns u ≤ hiZ z l := behindZ_mono _ (by omega)
      have := hn (behindZ z.turns u - loZ z l) (by omega)
      rw [show loZ z l + (behindZ z.turns u - loZ z l) = behindZ z.turns u by omega, (cand_of hu).2] at this
      cases this
    obtain ⟨i, t, a1, a2, a3, a4, a5⟩ := jump_ex hm hno
    have jump : ∀ (k : Nat), jumpZ z l k = true ↔ ∃ s, z.turns[k]? = some s ∧ s.at_ + addedZ z k ≤ l ∧ l < s.at_ + addedZ z (k + 1) := fun k => by
      unfold jumpZ
      simp only [Bool.and_eq_true, decide_eq_true_eq]
      constructor
      · rintro ⟨q1, q2⟩
        have := behindZ_le z.turns (minZ z l k)
        obtain ⟨s, hs⟩ : ∃ s, z.turns[k]? = some s := ⟨_, List.getElem?_eq_getElem (by omega)⟩
        have s1 := (behind_lt hm.rises hs _).1 q1
        have s2 : ¬ s.at_ ≤ minZ z l (k + 1) := fun h => absurd ((behind_lt hm.rises hs _).2 h) (by omega)
        unfold minZ at s1 s2
        exact ⟨s, hs, by omega, by omega⟩
      · rintro ⟨s, hs, q1, q2⟩
        refine ⟨(behind_lt hm.rises hs _).2 (by unfold minZ; omega), ?_⟩
        have := fun h => (behind_lt hm.rises hs (minZ z l (k + 1))).1 h
        by_cases h : behindZ z.turns (minZ z l (k + 1)) ≤ k
        · exact h
        · have := this (by omega); unfold minZ at this; omega
    obtain ⟨j, j1, j2, j3, j4⟩ := gapZ_some (lo := loZ z l) (hiZ z l - loZ z l) (loZ z l) i a4 (by omega) ((jump i).2 ⟨t, a1, a2, a3⟩)
    obtain ⟨s, s1, s2, s3⟩ := (jump j).1 j3
    exact .inr ⟨hno, j, s, s1, s2, s3, j4⟩
  · rw [if_neg h0]
    obtain ⟨k, a1, a2, a3, a4⟩ := scanZ_some _ h0
    obtain ⟨b1, b2⟩ := of_cand a2
    rw [a3]
    refine .inl ⟨b2, fun u hu hl => ?_⟩
    have hb := hit_near hm hl
    have h1 : loZ z l ≤ behindZ z.turns u := behindZ_mono _ (by omega)
    have h2 : behindZ z.turns u ≤ loZ z l + k := by rw [← b1]; exact behindZ_mono _ (by omega)
    obtain ⟨c1, c2⟩ := cand_of hl
    by_cases e : behindZ z.turns u = loZ z l + k
    · rw [e] at c1; omega
    · have := a4 (behindZ z.turns u - loZ z l) (by omega)
      rw [show loZ z l + (behindZ z.turns u - loZ z l) = behindZ z.turns u by omega, c2] at this
      cases this
theorem atZ_near {z : ZoneD} (hm : mayZ z) (l : Int) : l - 900 ≤ atZ z l ∧ atZ z l ≤ l + 900 := by
  rcases atZ_is hm l with ⟨h1, _⟩ | ⟨_, i, t, h2, _, _, h5⟩
  · exact hit_near hm h1
  · have il := (List.getElem?_eq_some_iff.1 h2).1
    have := hm.added i (by omega)
    omega
end Go.Proofs.YtechgcjdigpglaaGreat
