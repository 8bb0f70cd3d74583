/- Votes in order: what telling and taking back does to a row that rises. Plain laws; no condition but that it rises. -/
import Derived.Test.YtcleicjgeflbnaaG32
import Derived.Test.YtcleicjgeflbnaaG22
namespace Go.Proofs.Ytcleicjgeflbnaa
open Go.RowKit Go.ChangeShapes Go.WideShapes Go.Deep

theorem vlt_irrefl (v : VoteD) : ¬ vlt v v := by unfold vlt; omega
theorem vlt_total (a b : VoteD) : vlt a b ∨ a = b ∨ vlt b a := by
  obtain ⟨u, s⟩ := a
  obtain ⟨u', s'⟩ := b
  unfold vlt
  simp only [VoteD.mk.injEq]
  omega

theorem PlaceV.mem {xs : List VoteD} {v : VoteD} {i : Nat} {f : Bool} (h : PlaceV xs v i f) (hr : votesRise xs) : f = true ↔ v ∈ xs := by
  rw [h.is, dec_iff]
  constructor
  · exact fun e => List.mem_of_getElem? e
  · intro hm
    obtain ⟨t, ht, e⟩ := List.getElem_of_mem hm
    have he : xs[t]? = some v := by rw [List.getElem?_eq_getElem ht, e]
    have h1 : i ≤ t := Nat.le_of_not_lt fun hl => vlt_irrefl v (h.lt t v hl he)
    by_cases hti : t = i
    · rw [← hti]; exact he
    · have hq : xs[i]? = some (xs[i]'(by omega)) := List.getElem?_eq_getElem (by omega)
      exact absurd (votes_lt hr (t - i - 1) i _ v hq (by rw [show i + (t - i - 1) + 1 = t by omega]; exact he)) (h.ge i _ (Nat.le_refl _) hq)

theorem PlaceV.uniq {xs : List VoteD} {v : VoteD} {i j : Nat} {f g : Bool} (h : PlaceV xs v i f) (k : PlaceV xs v j g) : i = j ∧ f = g := by
  have hij : i = j := by
    rcases Nat.lt_trichotomy i j with hl | e | hl
    · have hq : xs[i]? = some (xs[i]'(by have := k.le; omega)) := List.getElem?_eq_getElem _
      exact absurd (k.lt i _ hl hq) (h.ge i _ (Nat.le_refl _) hq)
    · exact e
    · have hq : xs[j]? = some (xs[j]'(by have := h.le; omega)) := List.getElem?_eq_getElem _
      exact absurd (h.lt j _ hl hq) (k.ge j _ (Nat.le_refl _) hq)
  subst hij
  exact ⟨rfl, by rw [h.is, k.is]⟩

/-- A row with one vote more at a place. -/
def putAt (xs : List VoteD) (i : Nat) (v : VoteD) : List VoteD := xs.take i ++ v :: xs.drop i
theorem putAt_get (xs : List VoteD) (i : Nat) (v : VoteD) (hi : i ≤ xs.length) (t : Nat) : (putAt xs i v)[t]? = if t < i then xs[t]? else if t = i then some v else xs[t - 1]? := by
  unfold putAt
  by_cases h1 : t < i
  · rw [if_pos h1, List.getElem?_append_left (by rw [List.length_take]; omega), List.getElem?_take, if_pos h1]
  · rw [if_neg h1, List.getElem?_append_right (by rw [List.length_take]; omega), List.length_take, Nat.min_eq_left hi]
    by_cases h2 : t = i
    · subst h2; simp
    · rw [if_neg h2, show t - i = (t - i - 1) + 1 by omega, List.getElem?_cons_succ, List.getElem?_drop]
      congr 1; omega
theorem putAt_erase (xs : List VoteD) (i : Nat) (v : VoteD) (hi : i ≤ xs.length) : (putAt xs i v).eraseIdx i = xs := by
  apply List.ext_getElem?
  intro t
  rw [List.getElem?_eraseIdx]
  by_cases h : t < i
  · rw [if_pos h, putAt_get _ _ _ hi, if_pos h]
  · rw [if_neg h, putAt_get _ _ _ hi, if_neg (by omega), if_neg (by omega), Nat.add_sub_cancel]

theorem PlaceV.put_rises {xs : List VoteD} {v : VoteD} {i : Nat} (h : PlaceV xs v i false) (hr : votesRise xs) : votesRise (putAt xs i v) := by
  have hnm : v ∉ xs := fun hm => by have := (h.mem hr).2 hm; simp at this
  intro t a b ha hb
  rw [putAt_get _ _ _ h.le] at ha hb
  by_cases h1 : t + 1 < i
  · rw [if_pos (by omega)] at ha; rw [if_pos h1] at hb; exact hr t a b ha hb
  · by_cases h2 : t + 1 = i
    · rw [if_pos (by omega)] at ha; rw [if_neg h1, if_pos h2] at hb; cases hb
      exact h.lt t a (by omega) ha
    · by_cases h3 : t = i
      · rw [if_neg (by omega), if_pos h3] at ha; cases ha
        rw [if_neg h1, if_neg h2, show t + 1 - 1 = i by omega] at hb
        rcases vlt_total v b with hv | e | hv
        · exact hv
        · exact absurd (List.mem_of_getElem? (by rw [e]; exact hb)) hnm
        · exact absurd hv (h.ge i b (Nat.le_refl _) hb)
      · rw [if_neg (by omega), if_neg h3] at ha
        rw [if_neg h1, if_neg h2, show t + 1 - 1 = (t - 1) + 1 by omega] at hb
        exact hr (t - 1) a b ha hb
theorem PlaceV.put_place {xs : List VoteD} {v : VoteD} {i : Nat} (h : PlaceV xs v i false) : PlaceV (putAt xs i v) v i true := by
  have hg := putAt_get xs i v h.le
  refine ⟨by have := h.le; unfold putAt; simp; omega, fun t p ht hp => ?_, fun t p ht hp => ?_, ?_⟩
  · rw [hg, if_pos ht] at hp; exact h.lt t p ht hp
  · rw [hg, if_neg (by omega)] at hp
    by_cases h2 : t = i
    · rw [if_pos h2] at hp; cases hp; exact vlt_irrefl v
    · rw [if_neg h2] at hp; exact h.ge (t - 1) p (by omega) hp
  · rw [hg, if_neg (Nat.lt_irrefl i), if_pos rfl]; exact (dec_t rfl).symm
theorem erase_rises {xs : List VoteD} (hr : votesRise xs) (i : Nat) : votesRise (xs.eraseIdx i) := by
  intro t a b ha hb
  rw [List.getElem?_eraseIdx] at ha hb
  by_cases h1 : t + 1 < i
  · rw [if_pos (by omega)] at ha; rw [if_pos h1] at hb; exact hr t a b ha hb
  · by_cases h2 : t < i
    · rw [if_pos h2] at ha; rw [if_neg h1] at hb
      exact votes_lt hr 1 t a b ha hb
    · rw [if_neg h2] at ha; rw [if_neg h1] at hb
      exact hr (t + 1) a b ha hb
theorem count_put (p : VoteD → Bool) (xs : List VoteD) (i : Nat) (v : VoteD) : (putAt xs i v).countP p = xs.countP p + if p v then 1 else 0 := by
  unfold putAt
  rw [List.countP_append, List.countP_cons, ← Nat.add_assoc, ← List.countP_append, List.take_append_drop]
theorem count_erase (p : VoteD → Bool) (xs : List VoteD) (i : Nat) (v : VoteD) (h : xs[i]? = some v) : xs.countP p = (xs.eraseIdx i).countP p + if p v then 1 else 0 := by
  obtain ⟨hl, e⟩ := List.getElem?_eq_some_iff.1 h
  have hx : xs = xs.take i ++ v :: xs.drop (i + 1) := by
    rw [← e, ← List.drop_eq_getElem_cons hl, List.take_append_drop]
  rw [List.eraseIdx_eq_take_drop_succ]
  conv => lhs; rw [hx]
  rw [List.countP_append, List.countP_cons, List.countP_append]
  omega
end Go.Proofs.Ytcleicjgeflbnaa
