/- law: parts of a window, plain. -/
import Derived.Test.YtcleicjgeflbnaaGreatP2
namespace Go.Proofs.YtcleicjgeflbnaaGreat
open Go.RowKit Go.ChangeShapes Go.WideShapes Go.Deep
set_option linter.all false

/-- Does a span meet a window. -/
def meets (f t : Int) (s : Int × Int) : Bool := decide (s.1 < t) && decide (f < s.2)
theorem meets_iff {f t : Int} {s : Int × Int} : meets f t s = true ↔ s.1 < t ∧ f < s.2 := by unfold meets; rw [Bool.and_eq_true, decide_eq_true_eq, decide_eq_true_eq]
theorem memF_meets {z : ZoneD} {x long f t : Int} {s : Int × Int} (h : s ∈ memF z x long f t) : s.1 < t ∧ f < s.2 ∧ s.1 + long = s.2 ∧ long ≠ 0 := by
  unfold memF at h
  split at h
  · rename_i hc
    obtain rfl := List.mem_singleton.1 h
    exact ⟨hc.2.2.1, hc.2.2.2, rfl, hc.2.1⟩
  · cases h
theorem memF_part {z : ZoneD} {x long f t f1 t1 : Int} (h1 : f ≤ f1) (h2 : t1 ≤ t) : memF z x long f1 t1 = (memF z x long f t).filter (meets f1 t1) := by
  unfold memF
  by_cases hr : (0 ≤ atZ z x ∧ atZ z x ≤ 158310720) ∧ long ≠ 0 ∧ atZ z x < t ∧ f < atZ z x + long
  · rw [if_pos hr]
    by_cases hs : atZ z x < t1 ∧ f1 < atZ z x + long
    · rw [if_pos ⟨hr.1, hr.2.1, hs.1, hs.2⟩, List.filter_cons, if_pos (meets_iff.2 hs)]; rfl
    · rw [if_neg (fun h => hs ⟨h.2.2.1, h.2.2.2⟩), List.filter_cons, if_neg (fun h => hs (meets_iff.1 h))]; rfl
  · rw [if_neg hr, if_neg (fun h => hr ⟨h.1, h.2.1, by omega, by omega⟩)]; rfl
theorem flatMap_filter_nil {α β : Type} (p : α → Bool) (g : α → List β) : ∀ (l : List α), (∀ x ∈ l, p x = false → g x = []) → (l.filter p).flatMap g = l.flatMap g
  | [], _ => rfl
  | x :: l, h => by
    have ih := flatMap_filter_nil p g l fun y hy => h y (List.mem_cons_of_mem _ hy)
    rw [List.filter_cons, List.flatMap_cons]
    cases hp : p x with
    | true => rw [if_pos rfl, List.flatMap_cons, ih]
    | false => rw [if_neg (by decide), ih, h x (List.mem_cons_self ..) hp, List.nil_append]
theorem flatMap_filter_out {α β : Type} (q : β → Bool) (g : α → List β) : ∀ (l : List α), l.flatMap (fun x => (g x).filter q) = (l.flatMap g).filter q
  | [] => rfl
  | x :: l => by rw [List.flatMap_cons, List.flatMap_cons, List.filter_append, flatMap_filter_out q g l]
theorem perm_filter {α : Type} {l m : List α} (p : α → Bool) (h : l.Perm m) : (l.filter p).Perm (m.filter p) := h.filter p

/-- A window's members are those of a wider one that meet it. -/
theorem members_part {z : ZoneD} {e : EventD} {f t f1 t1 : Int} {L L1 : List (Int × Int)} (h : MemIs z e f t L) (hs : L.Pairwise spLe) (g : MemIs z e f1 t1 L1) (gs : L1.Pairwise spLe)
    (h1 : f ≤ f1) (h2 : f1 < t1) (h3 : t1 ≤ t) (hf : -1099511627776 ≤ f) (ht : t ≤ 1099511627776) (hw : t - f ≤ 528480) : L1 = L.filter (meets f1 t1) := by
  by_cases hok : mayE e ∧ mayZ z
  · have ha : askOk z e f t := ⟨hok.1, hok.2, by omega, hf, ht, hw⟩
    have hb : askOk z e f1 t1 := ⟨hok.1, hok.2, by omega, by omega, by omega, by omega⟩
    cases hwd : e.world with
    | true =>
      rw [h.world ha hwd, g.world hb hwd]
      by_cases hc : e.start < t ∧ f < e.start + e.long
      · rw [if_pos hc]
        by_cases hd : e.start < t1 ∧ f1 < e.start + e.long
        · rw [if_pos hd, List.filter_cons, if_pos (meets_iff.2 hd)]; rfl
        · rw [if_neg hd, List.filter_cons, if_neg (fun h => hd (meets_iff.1 h))]; rfl
      · rw [if_neg hc, if_neg (by omega)]; rfl
    | false =>
      obtain ⟨l, l1, l2, lp⟩ := h.own ha hwd
      obtain ⟨m, m1, m2, mp⟩ := g.own hb hwd
      have hlong := hok.1.2.2.1
      have hm : m = l.filter (inW (f1 - e.long - 1800) (t1 + 1800)) := rise_one m1 (l1.filter _) fun x => by
        rw [m2, List.mem_filter, l2]
        unfold plnP inW
        rw [Bool.and_eq_true, decide_eq_true_eq, decide_eq_true_eq]
        constructor
        · exact fun q => ⟨⟨⟨by omega, by omega⟩, q.2⟩, q.1⟩
        · exact fun q => ⟨q.2, q.1.2⟩
      have e1 : (m.flatMap fun x => memF z x e.long f1 t1) = (l.flatMap fun x => memF z x e.long f t).filter (meets f1 t1) := by
        rw [hm, flatMap_filter_nil, ← flatMap_filter_out]
        · congr 1; funext x; exact memF_part h1 h3
        · intro x _ hx
          have hn := atZ_near hok.2 x
          unfold memF
          rw [if_neg]
          intro hc
          unfold inW at hx
          rw [Bool.and_eq_false_iff, decide_eq_false_iff_not, decide_eq_false_iff_not] at hx
          omega
      have e2 : ((e.changes.filter fun c => dec (atE e c.at_)).flatMap fun c => memF z c.start c.long f1 t1) = ((e.changes.filter fun c => dec (atE e c.at_)).flatMap fun c => memF z c.start c.long f t).filter (meets f1 t1) := by
        rw [← flatMap_filter_out]
        congr 1; funext c; exact memF_part h1 h3
      rw [e1, e2, ← List.filter_append] at mp
      exact sorted_one (mp.trans (lp.filter _).symm) gs (hs.filter _)
  · rw [h.none (fun q => hok ⟨q.1, q.2.1⟩), g.none (fun q => hok ⟨q.1, q.2.1⟩)]; rfl
/-- Each member meets the window, and has a length. -/
theorem members_meet {z : ZoneD} {e : EventD} {f t : Int} {L : List (Int × Int)} (h : MemIs z e f t L) : ∀ s ∈ L, s.1 < t ∧ f < s.2 ∧ s.1 < s.2 := by
  intro s hs
  by_cases ha : askOk z e f t
  · have hl := ha.1.2.1
    cases hwd : e.world with
    | true =>
      rw [h.world ha hwd] at hs
      split at hs
      · obtain rfl := List.mem_singleton.1 hs
        rename_i hc
        exact ⟨hc.1, hc.2, by show e.start < e.start + e.long; omega⟩
      · cases hs
    | false =>
      obtain ⟨l, _, _, lp⟩ := h.own ha hwd
      rw [lp.mem_iff, List.mem_append, List.mem_flatMap, List.mem_flatMap] at hs
      rcases hs with ⟨x, _, hx⟩ | ⟨c, hc, hx⟩
      · have := memF_meets hx; exact ⟨this.1, this.2.1, by omega⟩
      · have h1 := memF_meets hx
        have hcm := (List.mem_filter.1 hc).1
        have hc0 : 0 ≤ c.long := by
          cases hag : e.again with
          | false => have := List.eq_nil_of_length_eq_zero (ha.1.2.2.2.1 hag).2.2.2; rw [this] at hcm; cases hcm
          | true => exact ((ha.1.2.2.2.2 hag).2.2.2.2.1 c hcm).2.1
        exact ⟨h1.1, h1.2.1, by omega⟩
  · rw [h.none ha] at hs; cases hs
theorem count_parts (cut : Int) : ∀ (L : List (Int × Int)), (∀ s ∈ L, s.1 < s.2) → (L.filter fun s => decide (s.1 < cut)).length + (L.filter fun s => decide (cut < s.2)).length = L.length + (L.filter fun s => decide (s.1 < cut) && decide (cut < s.2)).length
  | [], _ => rfl
  | s :: L, h => by
    have ih := count_parts cut L fun y hy => h y (List.mem_cons_of_mem _ hy)
    have hs := h s (List.mem_cons_self ..)
    rw [List.filter_cons, List.filter_cons, List.filter_cons]
    by_cases h1 : s.1 < cut <;> by_cases h2 : cut < s.2
    · rw [decide_eq_true h1, decide_eq_true h2]; simp; omega
    · rw [decide_eq_true h1, decide_eq_false h2]; simp; omega
    · rw [decide_eq_false h1, decide_eq_true h2]; simp; omega
    · omega
end Go.Proofs.YtcleicjgeflbnaaGreat
