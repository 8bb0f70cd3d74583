/- event.plain: plain laws. event.plain: the walk. Conditions: the event may be, its rows are not too long. -/
import Derived.Test.YtechgcjdigpglaaGreatQ7
namespace Go.Proofs.YtechgcjdigpglaaGreat
open Go.RowKit Go.ChangeShapes Go.WideShapes Go.Deep
set_option linter.all false

theorem compact_spec {zs : List Int} (h : zs.Pairwise (· ≤ ·)) : (Lib.compact zs).Pairwise (· < ·) ∧ ∀ x, x ∈ Lib.compact zs ↔ x ∈ zs := by
  have hle : ∀ i j : Nat, i ≤ j → j < zs.length → zs.toArray[i]! ≤ zs.toArray[j]! := fun i j hij hj => by
    rw [getElem!_pos zs.toArray i (by simp; omega), getElem!_pos zs.toArray j (by simpa using hj)]
    simp only [List.getElem_toArray]
    rcases Nat.lt_or_eq_of_le hij with h1 | rfl
    · exact List.pairwise_iff_getElem.1 h i j _ _ h1
    · exact Int.le_refl _
  have main : ∀ m, m ≤ zs.length → (Lib.compactUpTo zs.toArray m).Pairwise (· < ·) ∧ ∀ x, x ∈ Lib.compactUpTo zs.toArray m ↔ ∃ j, j < m ∧ zs.toArray[j]! = x := by
    intro m
    induction m with
    | zero => intro _; exact ⟨.nil, fun x => by simp [Lib.compactUpTo]⟩
    | succ m ih =>
      intro hm
      obtain ⟨i1, i2⟩ := ih (by omega)
      rw [Lib.compactUpTo_succ]
      by_cases hk : Lib.keeps zs.toArray m = true
      · rw [if_pos hk]
        refine ⟨?_, fun x => ?_⟩
        · refine rise_append i1 (List.pairwise_singleton _ _) fun x hx y hy => ?_
          obtain ⟨j, hj, rfl⟩ := (i2 x).1 hx
          obtain rfl := List.mem_singleton.1 hy
          have h1 := hle j (m - 1) (by omega) (by omega)
          have h2 := hle (m - 1) m (by omega) (by omega)
          unfold Lib.keeps at hk
          have h3 : zs.toArray[m]! ≠ zs.toArray[m - 1]! := by
            rcases of_decide_eq_true hk with h | h
            · omega
            · exact h
          omega
        · rw [List.mem_append, i2, List.mem_singleton]
          constructor
          · rintro (⟨j, hj, e⟩ | rfl)
            · exact ⟨j, by omega, e⟩
            · exact ⟨m, by omega, rfl⟩
          · rintro ⟨j, hj, e⟩
            by_cases e2 : j = m
            · subst e2; exact .inr e.symm
            · exact .inl ⟨j, by omega, e⟩
      · rw [if_neg hk, List.append_nil]
        refine ⟨i1, fun x => ?_⟩
        rw [i2]
        constructor
        · rintro ⟨j, hj, e⟩; exact ⟨j, by omega, e⟩
        · rintro ⟨j, hj, e⟩
          by_cases e2 : j = m
          · subst e2
            have h3 : ¬ j = 0 ∧ zs.toArray[j]! = zs.toArray[j - 1]! := by
              unfold Lib.keeps at hk
              have hk2 := of_decide_eq_false (Bool.eq_false_iff.2 hk)
              exact ⟨fun h => hk2 (.inl h), Classical.byContradiction fun h => hk2 (.inr h)⟩
            exact ⟨j - 1, by omega, by rw [← h3.2]; exact e⟩
          · exact ⟨j, by omega, e⟩
  obtain ⟨h1, h2⟩ := main zs.length (Nat.le_refl _)
  refine ⟨h1, fun x => (h2 x).trans ?_⟩
  constructor
  · rintro ⟨j, hj, rfl⟩
    rw [getElem!_pos zs.toArray j (by simpa using hj)]
    simp
  · intro hx
    obtain ⟨j, hj, rfl⟩ := List.getElem_of_mem hx
    exact ⟨j, hj, by rw [getElem!_pos zs.toArray j (by simpa using hj)]; simp⟩

theorem sort_le (l : List Int) : (l.mergeSort fun x y => decide (x ≤ y)).Pairwise (· ≤ ·) := by
  have := List.pairwise_mergeSort (le := fun x y : Int => decide (x ≤ y)) (fun a b c h1 h2 => by simp at *; omega) (fun a b => by simp; omega) l
  exact this.imp fun h => by simpa using h
/-- Which times are plain ones of a stretch. -/
def plnP (e : EventD) (from_ to_ x : Int) : Prop := (from_ ≤ x ∧ x < to_) ∧ (e.again = false → x = e.start) ∧ (e.again = true → (x ∈ allT e.rule e.start ∨ x ∈ e.plus) ∧ ¬ struckE e x)
def inW (from_ to_ : Int) (x : Int) : Bool := decide (from_ ≤ x) && decide (x < to_)
noncomputable def plusTo (e : EventD) (from_ to_ : Int) (k : Nat) : List Int := (e.plus.take k).filter (inW from_ to_)
theorem plusTo_step {e : EventD} {from_ to_ x : Int} {k : Nat} (h : e.plus[k]? = some x) : plusTo e from_ to_ (k + 1) = plusTo e from_ to_ k ++ if inW from_ to_ x = true then [x] else [] := by
  unfold plusTo
  rw [List.take_add_one, List.filter_append, h]
  congr 1
  cases hi : inW from_ to_ x <;> simp [List.filter_cons, hi]
theorem plusTo_le (e : EventD) (from_ to_ : Int) (k : Nat) : (plusTo e from_ to_ k).length ≤ e.plus.length := by
  unfold plusTo
  exact Nat.le_trans (List.length_filter_le _ _) (by simp; omega)
theorem plain_spec {e : EventD} {from_ to_ : Int} (ha : e.again = true) {l : List Int} (hl : l = (Lib.compact ((someT e.rule e.start from_ to_ ++ plusTo e from_ to_ e.plus.length).mergeSort fun x y => decide (x ≤ y))).filter fun x => !dec (struckE e x)) :
    l.Pairwise (· < ·) ∧ ∀ x, x ∈ l ↔ plnP e from_ to_ x := by
  obtain ⟨h1, h2⟩ := compact_spec (sort_le (someT e.rule e.start from_ to_ ++ plusTo e from_ to_ e.plus.length))
  subst hl
  refine ⟨h1.filter _, fun x => ?_⟩
  rw [List.mem_filter, h2, List.mem_mergeSort, List.mem_append]
  unfold someT plusTo inW plnP
  rw [List.take_of_length_le (Nat.le_refl _), List.mem_filter, List.mem_filter, Bool.and_eq_true, decide_eq_true_eq, decide_eq_true_eq, ha]
  by_cases hs : struckE e x
  · rw [dec_t hs]
    constructor
    · rintro ⟨_, h⟩; cases h
    · rintro ⟨_, _, h⟩; exact absurd hs (h rfl).2
  · rw [dec_f hs]
    constructor
    · rintro ⟨h | h, _⟩
      · exact ⟨h.2, (fun h => by cases h), fun _ => ⟨.inl h.1, hs⟩⟩
      · exact ⟨h.2, (fun h => by cases h), fun _ => ⟨.inr h.1, hs⟩⟩
    · rintro ⟨h, _, h3⟩
      obtain ⟨h4, _⟩ := h3 rfl
      exact ⟨h4.elim (fun h5 => .inl ⟨h5, h⟩) fun h5 => .inr ⟨h5, h⟩, rfl⟩
theorem someT_len {r : RuleD} {start from_ to_ : Int} (hr : mayR r) (hs : startOk start) (h : to_ - from_ ≤ 600000) : (someT r start from_ to_).length ≤ 500 := by
  have hd := day_count (l := someT r start from_ to_) (mi := start % 1440) (a := from_) (b := to_) ((allT_rise hr hs).filter _) (fun x hx => by
    unfold someT at hx
    rw [List.mem_filter, Bool.and_eq_true, decide_eq_true_eq, decide_eq_true_eq] at hx
    exact ⟨(mem_allT hr hs hx.1).1, hx.2.1, hx.2.2⟩)
  rcases hd with hd | hd
  · omega
  · rw [hd]; exact Nat.zero_le _
theorem own_low {w : World} {B B' : Nat} {e : TypeId} {z : Nat} {v : Value} {n : Nat} {xs : List Value} (h : w.ownsRow B e z v n xs) (hB : B' ≤ B) : w.ownsRow B' e z v n xs := by
  obtain ⟨h1, h2 | ⟨g, cap, cur, e1, a1, a2, a3⟩⟩ := h
  · exact ⟨h1, .inl h2⟩
  · exact ⟨h1, .inr ⟨g, cap, cur, e1, by omega, a2, a3⟩⟩
end Go.Proofs.YtechgcjdigpglaaGreat
namespace Go.Proofs.YtechgcjdigpglaaGreat
open Go.RowKit Go.ChangeShapes Go.WideShapes Go.Deep
set_option linter.all false

theorem heap_new (W : World) (o : Obj) (k : Nat) (h : k = W.heap.size) : (W.alloc o).heap[k]? = some o := by
  subst h
  show (W.heap.push o)[W.heap.size]? = some o
  simp
/-- What event.plain hands back. -/
def PlnEnd (e : EventD) (from_ to_ : Int) (w : World) (q : Ending) (w' : World) : Prop :=
  ∃ v l, q = .returned v ∧ w'.ownsRow w.heap.size 2 1 v l.length (inC l) ∧ l.length ≤ 20000 ∧ l.Pairwise (· < ·) ∧ (∀ x, x ∈ l ↔ plnP e from_ to_ x) ∧ Below w.heap.size w w'

set_option maxHeartbeats 8000000 in
set_option maxRecDepth 100000 in
theorem plain_once (cs : List Value) (e : EventD) (from_ to_ : Int) (w : World) (h : rEvent w cs e) (hm : mayE e) (ha : e.again = false) :
    Calls Tryz.prog 51 #[.agg cs.toArray, .int .i64 from_, .int .i64 to_] w (PlnEnd e from_ to_ w) := by
  obtain ⟨om, nm, cm, od, nd, cd, oy, ny, cy, op, np, cp, oe, ne, ce, ol, nl, cl, oc, nc, cc, rfl, -, -, -, -, -, -, -, -, -⟩ := h.opn
  have HB := Lib.hid (fun ob => show Below w.heap.size w ((w.alloc (.cells #[.int .i64 e.start, .int .i64 e.long, .bool e.world, .bool false, .int .i64 e.rule.freq, .int .i64 e.rule.interval, .int .i64 e.rule.count, .int .i64 e.rule.until_, .slice om nm cm, .slice od nd cd, .slice oy ny cy, .slice op np cp, .int .i64 e.rule.start, .slice oe ne ce, .slice ol nl cl, .slice oc nc cc] 32)).alloc ob) from belowA _ (belowA _ (Below.refl _ _)))
  have HB0 := Lib.hid (show Below w.heap.size w (w.alloc (.cells #[.int .i64 e.start, .int .i64 e.long, .bool e.world, .bool false, .int .i64 e.rule.freq, .int .i64 e.rule.interval, .int .i64 e.rule.count, .int .i64 e.rule.until_, .slice om nm cm, .slice od nd cd, .slice oy ny cy, .slice op np cp, .int .i64 e.rule.start, .slice oe ne ce, .slice ol nl cl, .slice oc nc cc] 32)) from belowA _ (Below.refl _ _))
  have HP := Lib.hid (show ∀ x, plnP e from_ to_ x ↔ ((from_ ≤ x ∧ x < to_) ∧ x = e.start) from fun x => by
    unfold plnP; rw [ha]; exact ⟨fun h => ⟨h.1, h.2.1 rfl⟩, fun h => ⟨h.1, (fun _ => h.2), fun h => by cases h⟩⟩)
  have HA := Lib.hid ha
  simp only [ha]
  clear h hm ha
  by_cases h1 : e.start < from_
  · have d1 := decide_eq_true h1
    have H1 := Lib.hid h1
    clear h1
    go_enter Tryz.func51, Tryz.ntmps51
    go_wp2_with fail
    go_ret
    exact ⟨_, [], rfl, World.ownsRow_nil _ _ _ _, by decide, .nil, fun x => by rw [HP.out]; constructor <;> intro h; cases h; have := H1.out; omega, HB0.out⟩
  · have d1 := decide_eq_false h1
    by_cases h2 : to_ ≤ e.start
    · have d2 := decide_eq_true h2
      have H1 := Lib.hid h2
      clear h1 h2
      go_enter Tryz.func51, Tryz.ntmps51
      go_wp2_with fail
      go_ret
      exact ⟨_, [], rfl, World.ownsRow_nil _ _ _ _, by decide, .nil, fun x => by rw [HP.out]; constructor <;> intro h; cases h; have := H1.out; omega, HB0.out⟩
    · have d2 := decide_eq_false h2
      have H1 := Lib.hid (And.intro h1 h2)
      clear h1 h2
      go_enter Tryz.func51, Tryz.ntmps51
      go_wp2_with fail
      go_ret
      refine ⟨_, [e.start], rfl, ⟨rfl, .inr ⟨w.heap.size + 1, 1, #[.int .i64 e.start], rfl, by omega, ?_, Nat.le_refl _, by unfold maxLen; omega, rfl, rfl⟩⟩, (by show 1 ≤ 20000; decide), List.pairwise_singleton _ _, fun x => ?_, HB.out _⟩
      · exact heap_new _ _ _ (by simp)
      · rw [HP.out, List.mem_singleton]; have := H1.out; constructor
        · rintro rfl; exact ⟨by omega, rfl⟩
        · exact fun h => h.2

set_option maxHeartbeats 16000000 in
set_option maxRecDepth 100000 in
theorem plain_again (cs : List Value) (e : EventD) (from_ to_ : Int) (w : World) (h : rEvent w cs e) (hf : fewE e) (hm : mayE e) (ha : e.again = true) (h1 : from_ < to_) (h2 : to_ - from_ ≤ 600000) (h3 : -5000000000000 ≤ from_) (h4 : to_ ≤ 5000000000000) :
    Calls Tryz.prog 51 #[.agg cs.toArray, .int .i64 from_, .int .i64 to_] w (PlnEnd e from_ to_ w) := by
  obtain ⟨i0, hi, hz0, hz1, hz2⟩ := info_parts info64
  have SE := Lib.hid h
  obtain ⟨om, nm, cm, od, nd, cd, oy, ny, cy, op, np, cp, oe, ne, ce, ol, nl, cl, oc, nc, cc, rfl, SR, l1, l2, l3, R1, R2, R3, -, -⟩ := h.opn
  obtain ⟨q, hq⟩ : ∃ q, q = (to_ - from_).tdiv 1440 := ⟨_, rfl⟩
  have hq0 : 0 ≤ q := by rw [hq]; exact Int.tdiv_nonneg (by omega) (by decide)
  have hq1 : q = (to_ - from_) / 1440 := by rw [hq, Int.tdiv_eq_ediv_of_nonneg (by omega)]
  have hs1 : wrap64 (to_ - from_) = to_ - from_ := by unfold wrap64; omega
  have hs2 : (to_ - from_).tdiv 1440 = q := hq.symm
  have hs3 : wrap64 (q + 1) = q + 1 := by unfold wrap64; omega
  have hs4 : IntKind.i64.wrap (to_ - from_) = to_ - from_ := by rw [IntKind.wrap_i64]; omega
  have hs5 : IntKind.i64.wrap (q + 1) = q + 1 := by rw [IntKind.wrap_i64]; omega
  have hs6 : IntKind.i64.wrap q = q := by rw [IntKind.wrap_i64]; omega
  have hs7 : wrap64 q = q := by unfold wrap64; omega
  have b0 : Below w.heap.size w (w.alloc (.cells #[.int .i64 e.start, .int .i64 e.long, .bool e.world, .bool true, .int .i64 e.rule.freq, .int .i64 e.rule.interval, .int .i64 e.rule.count, .int .i64 e.rule.until_, .slice om nm cm, .slice od nd cd, .slice oy ny cy, .slice op np cp, .int .i64 e.rule.start, .slice oe ne ce, .slice ol nl cl, .slice oc nc cc] 32)) := belowA _ (Below.refl _ _)
  have HB0 := Lib.hid b0
  have HX0 := Lib.hid (BxAt.new w #[.int .i64 e.start, .int .i64 e.long, .bool e.world, .bool true, .int .i64 e.rule.freq, .int .i64 e.rule.interval, .int .i64 e.rule.count, .int .i64 e.rule.until_, .slice om nm cm, .slice od nd cd, .slice oy ny cy, .slice op np cp, .int .i64 e.rule.start, .slice oe ne ce, .slice ol nl cl, .slice oc nc cc] 32)
  have RP := Lib.hid R2
  have HMA := Lib.hid (And.intro hm ha)
  have HL := Lib.hid (And.intro (someT_len (hm.2.2.2.2 ha).2.1 hm.1 h2) hf.p)
  have HBT := Lib.hid (between_any _ e.rule e.start from_ to_ (q + 1) (w.alloc (.cells #[.int .i64 e.start, .int .i64 e.long, .bool e.world, .bool true, .int .i64 e.rule.freq, .int .i64 e.rule.interval, .int .i64 e.rule.count, .int .i64 e.rule.until_, .slice om nm cm, .slice od nd cd, .slice oy ny cy, .slice op np cp, .int .i64 e.rule.start, .slice oe ne ce, .slice ol nl cl, .slice oc nc cc] 32)) (SR.later b0) hf.r)
  have HEQ := Lib.hid (between_eq (most := q + 1) (hm.2.2.2.2 ha).2.1 hm.1 h1 (by omega))
  have SE1 : rEvent (w.alloc (.cells #[.int .i64 e.start, .int .i64 e.long, .bool e.world, .bool true, .int .i64 e.rule.freq, .int .i64 e.rule.interval, .int .i64 e.rule.count, .int .i64 e.rule.until_, .slice om nm cm, .slice od nd cd, .slice oy ny cy, .slice op np cp, .int .i64 e.rule.start, .slice oe ne ce, .slice ol nl cl, .slice oc nc cc] 32)) [.int .i64 e.start, .int .i64 e.long, .bool e.world, .bool true, .int .i64 e.rule.freq, .int .i64 e.rule.interval, .int .i64 e.rule.count, .int .i64 e.rule.until_, .slice om nm cm, .slice od nd cd, .slice oy ny cy, .slice op np cp, .int .i64 e.rule.start, .slice oe ne ce, .slice ol nl cl, .slice oc nc cc] e := by
    have := SE.out.later b0
    rw [ha] at this
    exact this
  have HPR := Lib.hid (fun (x : Int) (W : World) (hb : Below (w.heap.size + 1) (w.alloc (.cells #[.int .i64 e.start, .int .i64 e.long, .bool e.world, .bool true, .int .i64 e.rule.freq, .int .i64 e.rule.interval, .int .i64 e.rule.count, .int .i64 e.rule.until_, .slice om nm cm, .slice od nd cd, .slice oy ny cy, .slice op np cp, .int .i64 e.rule.start, .slice oe ne ce, .slice ol nl cl, .slice oc nc cc] 32)) W) => struck_any _ e x w.heap.size (w.alloc (.cells #[.int .i64 e.start, .int .i64 e.long, .bool e.world, .bool true, .int .i64 e.rule.freq, .int .i64 e.rule.interval, .int .i64 e.rule.count, .int .i64 e.rule.until_, .slice om nm cm, .slice od nd cd, .slice oy ny cy, .slice op np cp, .int .i64 e.rule.start, .slice oe ne ce, .slice ol nl cl, .slice oc nc cc] 32)) W SE1 hf hm ha (HX0.out.below (hb.mono (by simp))) (hb.mono (by simp)))
  have hnl : nl ≤ 10000 := by have := hf.p; omega
  have HNL := Lib.hid l2
  simp only [ha]
  clear SE SE1 SR R1 R2 R3 l1 l2 l3 hf h hm ha b0 hq hq1 h1 h2 h3 h4
  go_enter Tryz.func51, Tryz.ntmps51
  go_wp2_with fail
  (with_reducible refine HBT.out.mono ?_)
  rintro q1 w1 ⟨v1, rfl, ho1, hb1⟩
  rw [HEQ.out] at ho1 ⊢
  have HO1 := Lib.hid ho1
  have HB1 := Lib.hid hb1
  clear ho1 hb1
  have kA1 : ∀ j, World.cell? w1 ⟨w.heap.size, j, none⟩ = World.cell? (w.alloc (.cells #[.int .i64 e.start, .int .i64 e.long, .bool e.world, .bool true, .int .i64 e.rule.freq, .int .i64 e.rule.interval, .int .i64 e.rule.count, .int .i64 e.rule.until_, .slice om nm cm, .slice od nd cd, .slice oy ny cy, .slice op np cp, .int .i64 e.rule.start, .slice oe ne ce, .slice ol nl cl, .slice oc nc cc] 32)) ⟨w.heap.size, j, none⟩ := fun j => HB1.out.cell (by simp)
  go_wp2_with fail
  go_loopw [7, 45] (fun v i wr => ∃ k : Nat, k ≤ nl ∧ i = .int .i64 (k : Nat) ∧ Hid (wr.ownsRow (w.heap.size + 1) 2 1 v (someT e.rule e.start from_ to_ ++ plusTo e from_ to_ k).length (inC (someT e.rule e.start from_ to_ ++ plusTo e from_ to_ k))) ∧ Hid (Below (w.heap.size + 1) (w.alloc (.cells #[.int .i64 e.start, .int .i64 e.long, .bool e.world, .bool true, .int .i64 e.rule.freq, .int .i64 e.rule.interval, .int .i64 e.rule.count, .int .i64 e.rule.until_, .slice om nm cm, .slice od nd cd, .slice oy ny cy, .slice op np cp, .int .i64 e.rule.start, .slice oe ne ce, .slice ol nl cl, .slice oc nc cc] 32)) wr)) (fun _ i _ => nl - (intOf i).toNat)
  case atStart => exact ⟨0, Nat.zero_le _, rfl, Lib.hid (by have := HO1.out; simpa [plusTo] using this), Lib.hid (by have := HB1.out; simpa using this)⟩
  case round =>
    obtain ⟨k, hk, rfl, HO, HB⟩ := hrel
    obtain ⟨wl, rfl⟩ : ∃ x, x = wr := ⟨_, rfl⟩
    have HBW := Lib.hid (show Below w.heap.size w wl from HB0.out.trans (HB.out.mono (by omega)))
    by_cases hlt : k < nl
    · have hlt' : (k : Int) < (nl : Int) := by omega
      obtain ⟨x, a1, hx, rfl, _, e0⟩ := RP.out.intAt HBW.out k hlt
      have HS := Lib.hid (plusTo_step (from_ := from_) (to_ := to_) hx)
      have hkl : (someT e.rule e.start from_ to_ ++ plusTo e from_ to_ k).length ≤ 10500 := by
        have := HL.out; have := plusTo_le e from_ to_ k; simp; omega
      clear hx
      by_cases c1 : from_ ≤ x
      · have d1 := decide_eq_true c1
        by_cases c2 : x < to_
        · have d2 := decide_eq_true c2
          have HG := Lib.hid (show plusTo e from_ to_ (k + 1) = plusTo e from_ to_ k ++ [x] by rw [HS.out, if_pos (by unfold inW; rw [d1, d2]; rfl)])
          clear c1 c2 HS
          go_wp2_with (at_builtin; refine wpList_append_own (wl.alloc (.cells #[.int .i64 x] 2)) rfl (.tmp 57) (.tmp 59) 29 rfl (w.heap.size + 1) 2 i0 (.int .i64 0) 1 8 under64 hi hz0 hz1 hz2 rfl (by decide) u7 (someT e.rule e.start from_ to_ ++ plusTo e from_ to_ k).length (inC (someT e.rule e.start from_ to_ ++ plusTo e from_ to_ k)) rfl (HO.out.alloc _) ⟨wl.heap.size, 0, none⟩ 1 1 [.int .i64 x] rfl rfl ?c1 ?c2 ?c3 ?c4 ?c5 ?_)
          case c1 =>
            intro j u hj
            match j, hj with
            | 0, hj => simp at hj; subst hj; simp [Addr.add]
            | (_ + 1), hj => simp at hj
          case c2 => intro u hu; simp at hu; subst hu; rfl
          case c3 => unfold maxLen; omega
          case c4 => omega
          case c5 => have := HB.out.size; simp at this ⊢; omega
          intro v' w4 hown hgrow _
          have HB4 := Lib.hid ((HB.out.alloc (by have := HB.out.size; simpa using this) (.cells #[.int .i64 x] 2)).grown hgrow (by have := HB.out.size; simp at this ⊢; omega) (fun j hj => (HO.out.lt j hj).1))
          have HO4 := Lib.hid (show w4.ownsRow (w.heap.size + 1) 2 1 v' (someT e.rule e.start from_ to_ ++ plusTo e from_ to_ (k + 1)).length (inC (someT e.rule e.start from_ to_ ++ plusTo e from_ to_ (k + 1))) by
            rw [HG.out, ← List.append_assoc, inC_append, List.length_append (bs := [x]), List.length_append]
            exact hown)
          clear hown hgrow
          go_wp2_with fail
          go_roundw
          case measure => simp [intOf]; omega
          case rel => exact ⟨k + 1, by omega, by go_num, HO4, HB4⟩
        · have d2 := decide_eq_false c2
          have HG := Lib.hid (show plusTo e from_ to_ (k + 1) = plusTo e from_ to_ k by rw [HS.out, if_neg (by unfold inW; rw [d1, d2]; decide), List.append_nil])
          clear c1 c2 HS
          go_wp2_with fail
          go_roundw
          case measure => simp [intOf]; omega
          case rel => exact ⟨k + 1, by omega, by go_num, Lib.hid (by rw [HG.out]; exact HO.out), HB⟩
      · have d1 := decide_eq_false c1
        have HG := Lib.hid (show plusTo e from_ to_ (k + 1) = plusTo e from_ to_ k by rw [HS.out, if_neg (by unfold inW; rw [d1]; simp), List.append_nil])
        clear c1 HS
        go_wp2_with fail
        go_roundw
        case measure => simp [intOf]; omega
        case rel => exact ⟨k + 1, by omega, by go_num, Lib.hid (by rw [HG.out]; exact HO.out), HB⟩
    · obtain rfl : nl = k := by omega
      have hkl : (someT e.rule e.start from_ to_ ++ plusTo e from_ to_ nl).length ≤ 10500 := by
        have := HL.out; have := plusTo_le e from_ to_ nl; simp; omega
      have hBs : w.heap.size + 1 ≤ wl.heap.size := by have := HB.out.size; simpa using this
      have CS := Lib.hid (sortI_any HO.out HB.out hBs (by omega))
      clear hBs
      go_wp2_with fail
      (with_reducible refine CS.out.mono ?_)
      rintro q2 w2 ⟨rfl, ho2, hb2⟩
      obtain ⟨S1, hS1⟩ : ∃ S1, S1 = ((someT e.rule e.start from_ to_ ++ plusTo e from_ to_ nl).mergeSort fun x y => decide (x ≤ y)) := ⟨_, rfl⟩
      have hs1l : S1.length = (someT e.rule e.start from_ to_ ++ plusTo e from_ to_ nl).length := by rw [hS1]; simp
      rw [← hS1, ← hs1l] at ho2
      have hBs : w.heap.size + 1 ≤ w2.heap.size := by have := hb2.size; simpa using this
      have CC := Lib.hid (compactI_any ho2 hb2 hBs (by omega))
      have HS1 := Lib.hid hS1
      clear ho2 hb2 hBs hS1
      go_wp2_with fail
      (with_reducible refine CC.out.mono ?_)
      rintro q3 w3 ⟨v3, rfl, ho3, hb3⟩
      have hcl := Lib.compact_length_le S1
      have hBs : w.heap.size + 1 ≤ w3.heap.size := by have := hb3.size; simpa using this
      have CD := Lib.hid (delE_any (struckE e) (w.heap.size + 1) (w.alloc (.cells #[.int .i64 e.start, .int .i64 e.long, .bool e.world, .bool true, .int .i64 e.rule.freq, .int .i64 e.rule.interval, .int .i64 e.rule.count, .int .i64 e.rule.until_, .slice om nm cm, .slice od nd cd, .slice oy ny cy, .slice op np cp, .int .i64 e.rule.start, .slice oe ne ce, .slice ol nl cl, .slice oc nc cc] 32)) (.pointer (some ⟨w.heap.size, 0, none⟩)) HPR.out v3 (Lib.compact S1) w3 ho3 hb3 hBs (by omega))
      clear ho3 hb3 hBs
      go_wp2_with fail
      (with_reducible refine CD.out.mono ?_)
      rintro q4 w4 ⟨v4, rfl, ho4, hb4⟩
      have HE := Lib.hid (And.intro ho4 hb4)
      clear ho4 hb4
      go_wp2_with fail
      go_ret
      obtain ⟨z1, z2⟩ := plain_spec (e := e) (from_ := from_) (to_ := to_) HMA.out.2 (l := (Lib.compact S1).filter fun x => !dec (struckE e x)) (by rw [HS1.out, HNL.out])
      exact ⟨v4, _, rfl, own_low HE.out.1 (by omega), Nat.le_trans (List.length_filter_le _ _) (by omega), z1, z2, HB0.out.trans (HE.out.2.mono (by omega))⟩

theorem plain_any (cs : List Value) (e : EventD) (from_ to_ : Int) (w : World) (h : rEvent w cs e) (hf : fewE e) (hm : mayE e) (h1 : from_ < to_) (h2 : to_ - from_ ≤ 600000) (h3 : -5000000000000 ≤ from_) (h4 : to_ ≤ 5000000000000) :
    Calls Tryz.prog 51 #[.agg cs.toArray, .int .i64 from_, .int .i64 to_] w (PlnEnd e from_ to_ w) := by
  cases ha : e.again with
  | false => exact plain_once cs e from_ to_ w h hm ha
  | true => exact plain_again cs e from_ to_ w h hf hm ha h1 h2 h3 h4
end Go.Proofs.YtechgcjdigpglaaGreat
