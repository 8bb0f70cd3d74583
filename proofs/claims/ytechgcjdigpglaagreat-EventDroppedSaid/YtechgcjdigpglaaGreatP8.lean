/- law: parts of a window, plain. law: the document's members, and those of an event of which one time is dropped: plain. -/
import Derived.Test.YtechgcjdigpglaaGreatP2
namespace Go.Proofs.YtechgcjdigpglaaGreat
open Go.RowKit Go.ChangeShapes Go.WideShapes Go.Deep
set_option linter.all false

/-- Does a span meet a window. -/
def meets (f t : Int) (s : Int × Int) : Bool := decide (s.1 < t) && decide (f < s.2)
theorem meets_iff {f t : Int} {s : Int × Int} : meets f t s = true ↔ s.1 < t ∧ f < s.2 := by unfold meets; rw [Bool.and_eq_true, decide_eq_true_eq, decide_eq_true_eq]
theorem memF_meets {z : ZoneD} {x long f t : Int} {s : Int × Int} (h : s ∈ memF z x long f t) : s.1 < t ∧ f < s.2 ∧ s.1 + long = s.2 ∧ long ≠ 0 := by
  unfold memF at h
  split at h
  · rename_i hc
    obtain rfl := List.mem_singleton.1 h
    exact ⟨hc.2.2.1, hc.2.2.2, rfl, hc.2.1⟩
  · cases h
theorem memF_part {z : ZoneD} {x long f t f1 t1 : Int} (h1 : f ≤ f1) (h2 : t1 ≤ t) : memF z x long f1 t1 = (memF z x long f t).filter (meets f1 t1) := by
  unfold memF
  by_cases hr : (0 ≤ atZ z x ∧ atZ z x ≤ 158310720) ∧ long ≠ 0 ∧ atZ z x < t ∧ f < atZ z x + long
  · rw [if_pos hr]
    by_cases hs : atZ z x < t1 ∧ f1 < atZ z x + long
    · rw [if_pos ⟨hr.1, hr.2.1, hs.1, hs.2⟩, List.filter_cons, if_pos (meets_iff.2 hs)]; rfl
    · rw [if_neg (fun h => hs ⟨h.2.2.1, h.2.2.2⟩), List.filter_cons, if_neg (fun h => hs (meets_iff.1 h))]; rfl
  · rw [if_neg hr, if_neg (fun h => hr ⟨h.1, h.2.1, by omega, by omega⟩)]; rfl
theorem flatMap_filter_nil {α β : Type} (p : α → Bool) (g : α → List β) : ∀ (l : List α), (∀ x ∈ l, p x = false → g x = []) → (l.filter p).flatMap g = l.flatMap g
  | [], _ => rfl
  | x :: l, h => by
    have ih := flatMap_filter_nil p g l fun y hy => h y (List.mem_cons_of_mem _ hy)
    rw [List.filter_cons, List.flatMap_cons]
    cases hp : p x with
    | true => rw [if_pos rfl, List.flatMap_cons, ih]
    | false => rw [if_neg (by decide), ih, h x (List.mem_cons_self ..) hp, List.nil_append]
theorem flatMap_filter_out {α β : Type} (q : β → Bool) (g : α → List β) : ∀ (l : List α), l.flatMap (fun x => (g x).filter q) = (l.flatMap g).filter q
  | [] => rfl
  | x :: l => by rw [List.flatMap_cons, List.flatMap_cons, List.filter_append, flatMap_filter_out q g l]
theorem perm_filter {α : Type} {l m : List α} (p : α → Bool) (h : l.Perm m) : (l.filter p).Perm (m.filter p) := h.filter p

/-- A window's members are those of a wider one that meet it. -/
theorem members_part {z : ZoneD} {e : EventD} {f t f1 t1 : Int} {L L1 : List (Int × Int)} (h : MemIs z e f t L) (hs : L.Pairwise spLe) (g : MemIs z e f1 t1 L1) (gs : L1.Pairwise spLe)
    (h1 : f ≤ f1) (h2 : f1 < t1) (h3 : t1 ≤ t) (hf : -1099511627776 ≤ f) (ht : t ≤ 1099511627776) (hw : t - f ≤ 528480) : L1 = L.filter (meets f1 t1) := by
  by_cases hok : mayE e ∧ mayZ z
  · have ha : askOk z e f t := ⟨hok.1, hok.2, by omega, hf, ht, hw⟩
    have hb : askOk z e f1 t1 := ⟨hok.1, hok.2, by omega, by omega, by omega, by omega⟩
    cases hwd : e.world with
    | true =>
      rw [h.world ha hwd, g.world hb hwd]
      by_cases hc : e.start < t ∧ f < e.start + e.long
      · rw [if_pos hc]
        by_cases hd : e.start < t1 ∧ f1 < e.start + e.long
        · rw [if_pos hd, List.filter_cons, if_pos (meets_iff.2 hd)]; rfl
        · rw [if_neg hd, List.filter_cons, if_neg (fun h => hd (meets_iff.1 h))]; rfl
      · rw [if_neg hc, if_neg (by omega)]; rfl
    | false =>
      obtain ⟨l, l1, l2, lp⟩ := h.own ha hwd
      obtain ⟨m, m1, m2, mp⟩ := g.own hb hwd
      have hlong := hok.1.2.2.1
      have hm : m = l.filter (inW (f1 - e.long - 1800) (t1 + 1800)) := rise_one m1 (l1.filter _) fun x => by
        rw [m2, List.mem_filter, l2]
        unfold plnP inW
        rw [Bool.and_eq_true, decide_eq_true_eq, decide_eq_true_eq]
        constructor
        · exact fun q => ⟨⟨⟨by omega, by omega⟩, q.2⟩, q.1⟩
        · exact fun q => ⟨q.2, q.1.2⟩
      have e1 : (m.flatMap fun x => memF z x e.long f1 t1) = (l.flatMap fun x => memF z x e.long f t).filter (meets f1 t1) := by
        rw [hm, flatMap_filter_nil, ← flatMap_filter_out]
        · congr 1; funext x; exact memF_part h1 h3
        · intro x _ hx
          have hn := atZ_near hok.2 x
          unfold memF
          rw [if_neg]
          intro hc
          unfold inW at hx
          rw [Bool.and_eq_false_iff, decide_eq_false_iff_not, decide_eq_false_iff_not] at hx
          omega
      have e2 : ((e.changes.filter fun c => dec (atE e c.at_)).flatMap fun c => memF z c.start c.long f1 t1) = ((e.changes.filter fun c => dec (atE e c.at_)).flatMap fun c => memF z c.start c.long f t).filter (meets f1 t1) := by
        rw [← flatMap_filter_out]
        congr 1; funext c; exact memF_part h1 h3
      rw [e1, e2, ← List.filter_append] at mp
      exact sorted_one (mp.trans (lp.filter _).symm) gs (hs.filter _)
  · rw [h.none (fun q => hok ⟨q.1, q.2.1⟩), g.none (fun q => hok ⟨q.1, q.2.1⟩)]; rfl
/-- Each member meets the window, and has a length. -/
theorem members_meet {z : ZoneD} {e : EventD} {f t : Int} {L : List (Int × Int)} (h : MemIs z e f t L) : ∀ s ∈ L, s.1 < t ∧ f < s.2 ∧ s.1 < s.2 := by
  intro s hs
  by_cases ha : askOk z e f t
  · have hl := ha.1.2.1
    cases hwd : e.world with
    | true =>
      rw [h.world ha hwd] at hs
      split at hs
      · obtain rfl := List.mem_singleton.1 hs
        rename_i hc
        exact ⟨hc.1, hc.2, by show e.start < e.start + e.long; omega⟩
      · cases hs
    | false =>
      obtain ⟨l, _, _, lp⟩ := h.own ha hwd
      rw [lp.mem_iff, List.mem_append, List.mem_flatMap, List.mem_flatMap] at hs
      rcases hs with ⟨x, _, hx⟩ | ⟨c, hc, hx⟩
      · have := memF_meets hx; exact ⟨this.1, this.2.1, by omega⟩
      · have h1 := memF_meets hx
        have hcm := (List.mem_filter.1 hc).1
        have hc0 : 0 ≤ c.long := by
          cases hag : e.again with
          | false => have := List.eq_nil_of_length_eq_zero (ha.1.2.2.2.1 hag).2.2.2; rw [this] at hcm; cases hcm
          | true => exact ((ha.1.2.2.2.2 hag).2.2.2.2.1 c hcm).2.1
        exact ⟨h1.1, h1.2.1, by omega⟩
  · rw [h.none ha] at hs; cases hs
theorem count_parts (cut : Int) : ∀ (L : List (Int × Int)), (∀ s ∈ L, s.1 < s.2) → (L.filter fun s => decide (s.1 < cut)).length + (L.filter fun s => decide (cut < s.2)).length = L.length + (L.filter fun s => decide (s.1 < cut) && decide (cut < s.2)).length
  | [], _ => rfl
  | s :: L, h => by
    have ih := count_parts cut L fun y hy => h y (List.mem_cons_of_mem _ hy)
    have hs := h s (List.mem_cons_self ..)
    rw [List.filter_cons, List.filter_cons, List.filter_cons]
    by_cases h1 : s.1 < cut <;> by_cases h2 : cut < s.2
    · rw [decide_eq_true h1, decide_eq_true h2]; simp; omega
    · rw [decide_eq_true h1, decide_eq_false h2]; simp; omega
    · rw [decide_eq_false h1, decide_eq_true h2]; simp; omega
    · omega
end Go.Proofs.YtechgcjdigpglaaGreat
namespace Go.Proofs.YtechgcjdigpglaaGreat
open Go.RowKit Go.ChangeShapes Go.WideShapes Go.Deep
set_option linter.all false

/-- May a window be asked, as the document says. -/
def askR (z : ZoneD) (e : EventD) (f t : Int) : Prop := mayE e ∧ mayZ z ∧ f < t ∧ -1000000000000 ≤ f ∧ t ≤ 1000000000000 ∧ t - f ≤ 528480
/-- Of which times the document takes members. -/
def refP (e : EventD) (f t x : Int) : Prop := (f - 20000 ≤ x ∧ x ≤ t + 2000) ∧ (e.again = false → x = e.start) ∧ (e.again = true → (x ∈ allT e.rule e.start ∨ x ∈ e.plus) ∧ ¬ struckE e x)
structure RefMem (z : ZoneD) (e : EventD) (f t : Int) (L : List (Int × Int)) : Prop where
  none : ¬ askR z e f t → L = []
  world : askR z e f t → e.world = true → L = if e.start < t ∧ f < e.start + e.long then [(e.start, e.start + e.long)] else []
  own : askR z e f t → e.world = false → ∃ l : List Int, l.Nodup ∧ (∀ x, x ∈ l ↔ refP e f t x) ∧
    L.Perm (l.flatMap (fun x => memF z x e.long f t) ++ (e.changes.filter fun c => dec (atE e c.at_)).flatMap fun c => memF z c.start c.long f t)
theorem rise_nodup {l : List Int} (h : l.Pairwise (· < ·)) : l.Nodup := h.imp fun h => by omega
theorem flatMap_far {z : ZoneD} {long f t : Int} (hz : mayZ z) (l : List Int) : (l.filter (inW (f - long - 1800) (t + 1800))).flatMap (fun x => memF z x long f t) = l.flatMap fun x => memF z x long f t :=
  flatMap_filter_nil _ _ l fun x _ hx => by
    have hn := atZ_near hz x
    unfold memF
    rw [if_neg]
    intro hc
    unfold inW at hx
    rw [Bool.and_eq_false_iff, decide_eq_false_iff_not, decide_eq_false_iff_not] at hx
    omega
/-- The code's members are the document's. -/
theorem members_ref {z : ZoneD} {e : EventD} {f t : Int} {L M : List (Int × Int)} (h : MemIs z e f t L) (hs : L.Pairwise spLe) (g : RefMem z e f t M) (gs : M.Pairwise spLe)
    (hw : mayE e → f < t → -1073741824 ≤ f ∧ t ≤ 1073741824) : L = M := by
  by_cases ha : askOk z e f t
  · have hw' := hw ha.1 ha.2.2.1
    have hb : askR z e f t := ⟨ha.1, ha.2.1, ha.2.2.1, by omega, by omega, ha.2.2.2.2.2⟩
    cases hwd : e.world with
    | true => rw [h.world ha hwd, g.world hb hwd]
    | false =>
      obtain ⟨l, l1, l2, lp⟩ := h.own ha hwd
      obtain ⟨m, m1, m2, mp⟩ := g.own hb hwd
      have hlong := ha.1.2.2.1
      have hp : l.Perm (m.filter (inW (f - e.long - 1800) (t + 1800))) := (List.perm_ext_iff_of_nodup (rise_nodup l1) (m1.filter _)).2 fun x => by
        rw [l2, List.mem_filter, m2]
        unfold plnP refP inW
        rw [Bool.and_eq_true, decide_eq_true_eq, decide_eq_true_eq]
        constructor
        · exact fun q => ⟨⟨⟨by omega, by omega⟩, q.2⟩, q.1⟩
        · exact fun q => ⟨q.2, q.1.2⟩
      have hq := hp.flatMap_right (fun x => memF z x e.long f t)
      rw [flatMap_far ha.2.1] at hq
      exact sorted_one (lp.trans ((hq.append_right _).trans mp.symm)) hs gs
  · rw [h.none ha, g.none]
    intro hb
    have hw' := hw hb.1 hb.2.2.1
    exact ha ⟨hb.1, hb.2.1, hb.2.2.1, by omega, by omega, hb.2.2.2.2.2⟩

/-- An event of which a time is dropped. -/
def dropE (e : EventD) (x : Int) : EventD := { e with changes := [⟨x, x, 0⟩] }
theorem atE_stamp {e : EventD} {x : Int} (ha : e.again = true) (h : atE e x) : startOk x := by
  obtain ⟨hm, -, h3⟩ := h
  obtain ⟨-, h5⟩ := h3 ha
  have h6 := hm.2.2.2.2 ha
  rcases h5 with h5 | h5
  · exact h6.2.2.2.1.1 x h5
  · have := mem_allT h6.2.1 hm.1 h5
    have h7 := hm.1
    unfold startOk at *
    omega
theorem drop_may {e : EventD} {x : Int} (ha : e.again = true) (h : atE e x) : mayE (dropE e x) := by
  have hm := h.1
  have hst := atE_stamp ha h
  have h6 := hm.2.2.2.2 ha
  refine ⟨hm.1, hm.2.1, hm.2.2.1, (fun hq => by rw [show (dropE e x).again = e.again from rfl, ha] at hq; cases hq), fun _ => ⟨h6.1, h6.2.1, h6.2.2.1, h6.2.2.2.1, ?_⟩⟩
  refine ⟨fun c hc => ?_, fun y hy => ?_, fun i a b ha hb => ?_, by simp [dropE]⟩
  · obtain rfl := List.mem_singleton.1 hc; exact ⟨hst, Int.le_refl 0, by show (0 : Int) ≤ 10080; decide⟩
  · obtain rfl := List.mem_singleton.1 (show y ∈ [x] from hy); exact hst
  · have := (List.getElem?_eq_some_iff.1 hb).1; simp [dropE] at this
/-- Does the member of a time meet a window. -/
def meetsZ (z : ZoneD) (x long f t : Int) : Prop := mayZ z ∧ (0 ≤ atZ z x ∧ atZ z x ≤ 158310720) ∧ atZ z x < t ∧ f < atZ z x + long
theorem drop_count {z : ZoneD} {e : EventD} {x f t : Int} {L M : List (Int × Int)} (ha : e.again = true) (hx : atE e x) (hch : e.changes = []) (h : MemIs z e f t L) (g : MemIs z (dropE e x) f t M)
    (hf : 0 ≤ f) (ht : t ≤ 1073741824) (hw : f < t) (hl : t - f ≤ 86400) : (L.length : Int) = M.length + (if dec (meetsZ z x e.long f t) = true then 1 else 0) := by
  by_cases hz : mayZ z
  · have ok : askOk z e f t := ⟨hx.1, hz, hw, by omega, by omega, by omega⟩
    have ok2 : askOk z (dropE e x) f t := ⟨drop_may ha hx, hz, hw, by omega, by omega, by omega⟩
    have hwd : e.world = false := (hx.1.2.2.2.2 ha).1
    obtain ⟨l, l1, l2, lp⟩ := h.own ok hwd
    obtain ⟨m, m1, m2, mp⟩ := g.own ok2 hwd
    rw [hch, List.filter_nil, List.flatMap_nil, List.append_nil] at lp
    have hz0 : (((dropE e x).changes.filter fun c => dec (atE (dropE e x) c.at_)).flatMap fun c => memF z c.start c.long f t) = [] := by
      rw [List.flatMap_eq_nil_iff]
      intro c hc
      obtain rfl := List.mem_singleton.1 (List.mem_filter.1 hc).1
      unfold memF
      rw [if_neg (fun h => h.2.1 rfl)]
    rw [hz0, List.append_nil] at mp
    have hlong := hx.1.2
    have hml : m = l.filter fun y => decide (y ≠ x) := rise_one m1 (l1.filter _) fun y => by
      rw [m2, List.mem_filter, l2, decide_eq_true_eq]
      unfold plnP struckE changedE
      rw [show (dropE e x).again = e.again from rfl, show (dropE e x).long = e.long from rfl, show (dropE e x).rule = e.rule from rfl, show (dropE e x).start = e.start from rfl, show (dropE e x).plus = e.plus from rfl, show (dropE e x).ex = e.ex from rfl, hch, ha]
      constructor
      · rintro ⟨q1, q2, q3⟩
        obtain ⟨q4, q5⟩ := q3 rfl
        refine ⟨⟨q1, q2, fun _ => ⟨q4, ?_⟩⟩, fun hy => q5 (.inr ⟨⟨x, x, 0⟩, List.mem_singleton.2 rfl, hy.symm⟩)⟩
        rintro (q6 | ⟨c, hc, _⟩)
        · exact q5 (.inl q6)
        · cases hc
      · rintro ⟨⟨q1, q2, q3⟩, q7⟩
        obtain ⟨q4, q5⟩ := q3 rfl
        refine ⟨q1, q2, fun _ => ⟨q4, ?_⟩⟩
        rintro (q6 | ⟨c, hc, q8⟩)
        · exact q5 (.inl q6)
        · obtain rfl := List.mem_singleton.1 (show c ∈ [(⟨x, x, 0⟩ : ChangeD)] from hc)
          exact q7 q8.symm
    have hxl : (f - e.long - 1800 ≤ x ∧ x < t + 1800) → x ∈ l := fun q => (l2 x).2 ⟨q, (fun h => by rw [ha] at h; cases h), fun _ => by
      obtain ⟨-, -, h3⟩ := hx
      obtain ⟨h4, h5⟩ := h3 ha
      refine ⟨h5.elim .inr .inl, ?_⟩
      rintro (q6 | ⟨c, hc, _⟩)
      · exact h4 q6
      · rw [hch] at hc; cases hc⟩
    have count : ∀ (k : List Int), k.Nodup → ((k.flatMap fun y => memF z y e.long f t).length : Int) = (((k.filter fun y => decide (y ≠ x)).flatMap fun y => memF z y e.long f t).length : Int) + (if x ∈ k then ((memF z x e.long f t).length : Int) else 0) := by
      intro k
      induction k with
      | nil => intro _; rfl
      | cons y k ih =>
        intro hn
        rw [List.nodup_cons] at hn
        have ih := ih hn.2
        rw [List.flatMap_cons, List.length_append, List.filter_cons]
        by_cases e1 : y = x
        · subst e1
          rw [if_neg hn.1] at ih
          rw [if_neg (by simp), if_pos (List.mem_cons_self ..)]
          omega
        · rw [if_pos (decide_eq_true e1), List.flatMap_cons, List.length_append]
          have : (x ∈ y :: k) ↔ x ∈ k := by rw [List.mem_cons]; exact ⟨fun h => h.resolve_left fun h => e1 h.symm, .inr⟩
          by_cases hk : x ∈ k
          · rw [if_pos hk] at ih; rw [if_pos (this.2 hk)]; omega
          · rw [if_neg hk] at ih; rw [if_neg (fun h => hk (this.1 h))]; omega
    have hc := count l (rise_nodup l1)
    rw [← hml] at hc
    have e1 := lp.length_eq
    have e2 := mp.length_eq
    rw [show (dropE e x).long = e.long from rfl] at e2
    have hn := atZ_near hz x
    by_cases hm : meetsZ z x e.long f t
    · rw [if_pos (dec_t hm)]
      have hmem : (memF z x e.long f t).length = 1 := by unfold memF; rw [if_pos ⟨hm.2.1, by omega, hm.2.2⟩]; rfl
      have := hm.2.2
      rw [if_pos (hxl ⟨by omega, by omega⟩)] at hc
      omega
    · rw [if_neg (by rw [dec_f hm]; decide)]
      have hmem : (memF z x e.long f t).length = 0 := by unfold memF; rw [if_neg (fun q => hm ⟨hz, q.1, q.2.2⟩)]; rfl
      rw [hmem] at hc
      split at hc <;> omega
  · rw [h.none (fun q => hz q.2.1), g.none (fun q => hz q.2.1), if_neg (by rw [dec_f (fun q => hz q.1)]; decide)]; rfl
end Go.Proofs.YtechgcjdigpglaaGreat
