/- event.plain: plain laws. -/
import Derived.Test.YtcleicjgeflbnaaGreatQ7
namespace Go.Proofs.YtcleicjgeflbnaaGreat
open Go.RowKit Go.ChangeShapes Go.WideShapes Go.Deep
set_option linter.all false

theorem compact_spec {zs : List Int} (h : zs.Pairwise (· ≤ ·)) : (Lib.compact zs).Pairwise (· < ·) ∧ ∀ x, x ∈ Lib.compact zs ↔ x ∈ zs := by
  have hle : ∀ i j : Nat, i ≤ j → j < zs.length → zs.toArray[i]! ≤ zs.toArray[j]! := fun i j hij hj => by
    rw [getElem!_pos zs.toArray i (by simp; omega), getElem!_pos zs.toArray j (by simpa using hj)]
    simp only [List.getElem_toArray]
    rcases Nat.lt_or_eq_of_le hij with h1 | rfl
    · exact List.pairwise_iff_getElem.1 h i j _ _ h1
    · exact Int.le_refl _
  have main : ∀ m, m ≤ zs.length → (Lib.compactUpTo zs.toArray m).Pairwise (· < ·) ∧ ∀ x, x ∈ Lib.compactUpTo zs.toArray m ↔ ∃ j, j < m ∧ zs.toArray[j]! = x := by
    intro m
    induction m with
    | zero => intro _; exact ⟨.nil, fun x => by simp [Lib.compactUpTo]⟩
    | succ m ih =>
      intro hm
      obtain ⟨i1, i2⟩ := ih (by omega)
      rw [Lib.compactUpTo_succ]
      by_cases hk : Lib.keeps zs.toArray m = true
      · rw [if_pos hk]
        refine ⟨?_, fun x => ?_⟩
        · refine rise_append i1 (List.pairwise_singleton _ _) fun x hx y hy => ?_
          obtain ⟨j, hj, rfl⟩ := (i2 x).1 hx
          obtain rfl := List.mem_singleton.1 hy
          have h1 := hle j (m - 1) (by omega) (by omega)
          have h2 := hle (m - 1) m (by omega) (by omega)
          unfold Lib.keeps at hk
          have h3 : zs.toArray[m]! ≠ zs.toArray[m - 1]! := by
            rcases of_decide_eq_true hk with h | h
            · omega
            · exact h
          omega
        · rw [List.mem_append, i2, List.mem_singleton]
          constructor
          · rintro (⟨j, hj, e⟩ | rfl)
            · exact ⟨j, by omega, e⟩
            · exact ⟨m, by omega, rfl⟩
          · rintro ⟨j, hj, e⟩
            by_cases e2 : j = m
            · subst e2; exact .inr e.symm
            · exact .inl ⟨j, by omega, e⟩
      · rw [if_neg hk, List.append_nil]
        refine ⟨i1, fun x => ?_⟩
        rw [i2]
        constructor
        · rintro ⟨j, hj, e⟩; exact ⟨j, by omega, e⟩
        · rintro ⟨j, hj, e⟩
          by_cases e2 : j = m
          · subst e2
            have h3 : ¬ j = 0 ∧ zs.toArray[j]! = zs.toArray[j - 1]! := by
              unfold Lib.keeps at hk
              have hk2 := of_decide_eq_false (Bool.eq_false_iff.2 hk)
              exact ⟨fun h => hk2 (.inl h), Classical.byContradiction fun h => hk2 (.inr h)⟩
            exact ⟨j - 1, by omega, by rw [← h3.2]; exact e⟩
          · exact ⟨j, by omega, e⟩
  obtain ⟨h1, h2⟩ := main zs.length (Nat.le_refl _)
  refine ⟨h1, fun x => (h2 x).trans ?_⟩
  constructor
  · rintro ⟨j, hj, rfl⟩
    rw [getElem!_pos zs.toArray j (by simpa using hj)]
    simp
  · intro hx
    obtain ⟨j, hj, rfl⟩ := List.getElem_of_mem hx
    exact ⟨j, hj, by rw [getElem!_pos zs.toArray j (by simpa using hj)]; simp⟩

theorem sort_le (l : List Int) : (l.mergeSort fun x y => decide (x ≤ y)).Pairwise (· ≤ ·) := by
  have := List.pairwise_mergeSort (le := fun x y : Int => decide (x ≤ y)) (fun a b c h1 h2 => by simp at *; omega) (fun a b => by simp; omega) l
  exact this.imp fun h => by simpa using h
/-- Which times are plain ones of a stretch. -/
def plnP (e : EventD) (from_ to_ x : Int) : Prop := (from_ ≤ x ∧ x < to_) ∧ (e.again = false → x = e.start) ∧ (e.again = true → (x ∈ allT e.rule e.start ∨ x ∈ e.plus) ∧ ¬ struckE e x)
def inW (from_ to_ : Int) (x : Int) : Bool := decide (from_ ≤ x) && decide (x < to_)
noncomputable def plusTo (e : EventD) (from_ to_ : Int) (k : Nat) : List Int := (e.plus.take k).filter (inW from_ to_)
theorem plusTo_step {e : EventD} {from_ to_ x : Int} {k : Nat} (h : e.plus[k]? = some x) : plusTo e from_ to_ (k + 1) = plusTo e from_ to_ k ++ if inW from_ to_ x = true then [x] else [] := by
  unfold plusTo
  rw [List.take_add_one, List.filter_append, h]
  congr 1
  cases hi : inW from_ to_ x <;> simp [List.filter_cons, hi]
theorem plusTo_le (e : EventD) (from_ to_ : Int) (k : Nat) : (plusTo e from_ to_ k).length ≤ e.plus.length := by
  unfold plusTo
  exact Nat.le_trans (List.length_filter_le _ _) (by simp; omega)
theorem plain_spec {e : EventD} {from_ to_ : Int} (ha : e.again = true) {l : List Int} (hl : l = (Lib.compact ((someT e.rule e.start from_ to_ ++ plusTo e from_ to_ e.plus.length).mergeSort fun x y => decide (x ≤ y))).filter fun x => !dec (struckE e x)) :
    l.Pairwise (· < ·) ∧ ∀ x, x ∈ l ↔ plnP e from_ to_ x := by
  obtain ⟨h1, h2⟩ := compact_spec (sort_le (someT e.rule e.start from_ to_ ++ plusTo e from_ to_ e.plus.length))
  subst hl
  refine ⟨h1.filter _, fun x => ?_⟩
  rw [List.mem_filter, h2, List.mem_mergeSort, List.mem_append]
  unfold someT plusTo inW plnP
  rw [List.take_of_length_le (Nat.le_refl _), List.mem_filter, List.mem_filter, Bool.and_eq_true, decide_eq_true_eq, decide_eq_true_eq, ha]
  by_cases hs : struckE e x
  · rw [dec_t hs]
    constructor
    · rintro ⟨_, h⟩; cases h
    · rintro ⟨_, _, h⟩; exact absurd hs (h rfl).2
  · rw [dec_f hs]
    constructor
    · rintro ⟨h | h, _⟩
      · exact ⟨h.2, (fun h => by cases h), fun _ => ⟨.inl h.1, hs⟩⟩
      · exact ⟨h.2, (fun h => by cases h), fun _ => ⟨.inr h.1, hs⟩⟩
    · rintro ⟨h, _, h3⟩
      obtain ⟨h4, _⟩ := h3 rfl
      exact ⟨h4.elim (fun h5 => .inl ⟨h5, h⟩) fun h5 => .inr ⟨h5, h⟩, rfl⟩
theorem someT_len {r : RuleD} {start from_ to_ : Int} (hr : mayR r) (hs : startOk start) (h : to_ - from_ ≤ 600000) : (someT r start from_ to_).length ≤ 500 := by
  have hd := day_count (l := someT r start from_ to_) (mi := start % 1440) (a := from_) (b := to_) ((allT_rise hr hs).filter _) (fun x hx => by
    unfold someT at hx
    rw [List.mem_filter, Bool.and_eq_true, decide_eq_true_eq, decide_eq_true_eq] at hx
    exact ⟨(mem_allT hr hs hx.1).1, hx.2.1, hx.2.2⟩)
  rcases hd with hd | hd
  · omega
  · rw [hd]; exact Nat.zero_le _
theorem own_low {w : World} {B B' : Nat} {e : TypeId} {z : Nat} {v : Value} {n : Nat} {xs : List Value} (h : w.ownsRow B e z v n xs) (hB : B' ≤ B) : w.ownsRow B' e z v n xs := by
  obtain ⟨h1, h2 | ⟨g, cap, cur, e1, a1, a2, a3⟩⟩ := h
  · exact ⟨h1, .inl h2⟩
  · exact ⟨h1, .inr ⟨g, cap, cur, e1, by omega, a2, a3⟩⟩
end Go.Proofs.YtcleicjgeflbnaaGreat
