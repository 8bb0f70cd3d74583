/- The walk of with: a state with a poll instead of that of its number. Conditions: there is one of that number, the polls' numbers rise, there are at most a hundred. -/
import Derived.Test.YtcleicjgeflbnaaG21
namespace Go.Proofs.Ytcleicjgeflbnaa
open Go.RowKit Go.ChangeShapes Go.WideShapes Go.Deep

theorem Place.found {xs : List PollD} {id : Int} {i : Nat} {f : Bool} (h : Place xs id i f) (hr : rises (·.id) xs) {t : Nat} {y : PollD} (hy : xs[t]? = some y) (e : y.id = id) : i = t ∧ f = true := by
  have h1 : i ≤ t := Nat.le_of_not_lt fun hl => by have := h.lt t y hl hy; omega
  have h2 : t ≤ i := Nat.le_of_not_lt fun hl => by
    have hq : xs[i]? = some (xs[i]'(by have := (List.getElem?_eq_some_iff.1 hy).1; omega)) := List.getElem?_eq_getElem _
    have h3 := h.ge i _ (Nat.le_refl _) hq
    have h4 := rises_lt hr (t - i - 1) i _ y hq (by rw [show i + (t - i - 1) + 1 = t by omega]; exact hy)
    omega
  obtain rfl : i = t := by omega
  exact ⟨rfl, by rw [h.is]; exact dec_t ⟨y, hy, e⟩⟩

theorem heap_alloc3_new (w : World) (A B C : Obj) : (((w.alloc A).alloc B).alloc C).heap[w.heap.size + 1 + 1]? = some C := by
  have h := heap_alloc_new ((w.alloc A).alloc B) C
  simpa using h

/-- A list with cells set one by one. -/
def setL : List Value → Nat → List Value → List Value
  | xs, _, [] => xs
  | xs, o, v :: r => setL (xs.set o v) (o + 1) r
theorem setL_length : ∀ (vs : List Value) (xs : List Value) (o : Nat), (setL xs o vs).length = xs.length
  | [], _, _ => rfl
  | v :: r, xs, o => by rw [setL, setL_length r]; simp
theorem setL_get : ∀ (vs : List Value) (xs : List Value) (o j : Nat), o + vs.length ≤ xs.length → (setL xs o vs)[j]? = if o ≤ j ∧ j < o + vs.length then vs[j - o]? else xs[j]?
  | [], xs, o, j, _ => by rw [setL, if_neg (by simp only [List.length_nil]; omega)]
  | v :: r, xs, o, j, h => by
    simp only [List.length_cons] at h
    rw [setL, setL_get r _ _ _ (by simp; omega)]
    by_cases h1 : j = o
    · subst h1
      rw [if_neg (by omega), if_pos (by simp), List.getElem?_set_self (by omega)]
      simp
    · by_cases h2 : o + 1 ≤ j ∧ j < o + 1 + r.length
      · rw [if_pos h2, if_pos (by simp; omega), show j - o = (j - (o + 1)) + 1 by omega, List.getElem?_cons_succ]
      · rw [if_neg h2, if_neg (by simp; omega), List.getElem?_set_ne (by omega)]
theorem setL_part (ns vs : List Value) (i : Nat) (hv : vs.length = 16) (hl : i * 16 + 16 ≤ ns.length) : ((setL ns (i * 16) vs).drop (i * 16)).take 16 = vs := by
  apply List.ext_getElem?
  intro j
  rw [List.getElem?_take]
  by_cases hj : j < 16
  · rw [if_pos hj, List.getElem?_drop, setL_get _ _ _ _ (by omega), if_pos (by omega)]
    congr 1; omega
  · rw [if_neg hj, List.getElem?_eq_none (by omega)]
theorem setL_other (ns vs : List Value) (i t : Nat) (hv : vs.length = 16) (hl : i * 16 + 16 ≤ ns.length) (ht : t ≠ i) : ((setL ns (i * 16) vs).drop (t * 16)).take 16 = (ns.drop (t * 16)).take 16 := by
  apply List.ext_getElem?
  intro j
  rw [List.getElem?_take, List.getElem?_take]
  by_cases hj : j < 16
  · rw [if_pos hj, if_pos hj, List.getElem?_drop, List.getElem?_drop, setL_get _ _ _ _ (by omega), if_neg (by omega)]
  · rw [if_neg hj, if_neg hj]

theorem ownsRow_setCells {base : Nat} {e : TypeId} {size g n cap : Nat} : ∀ (vs : List Value) (o : Nat) (w : World) (xs : List Value), w.ownsRow base e size (.slice (some ⟨g, 0, none⟩) n cap) n xs →
    (w.setCells g o vs).ownsRow base e size (.slice (some ⟨g, 0, none⟩) n cap) n (setL xs o vs)
  | [], _, _, _, h => h
  | v :: r, o, _, _, h => ownsRow_setCells r (o + 1) _ _ (h.stored o v).1
theorem ownsRow_setCells_below {base : Nat} {e : TypeId} {size n g : Nat} {u : Value} (hg : g < base) : ∀ (vs : List Value) (o : Nat) (w : World) (xs : List Value), w.ownsRow base e size u n xs →
    (w.setCells g o vs).ownsRow base e size u n xs
  | [], _, _, _, h => h
  | v :: r, o, _, _, h => ownsRow_setCells_below hg r (o + 1) _ _ (ownsRow_setCell_below h (a := ⟨g, o, none⟩) hg v)

set_option maxHeartbeats 4000000 in
set_option maxRecDepth 100000 in
theorem with_at (cs ps : List Value) (x : StateD) (p : PollD) (w0 w : World) (hb0 : Below w0.heap.size w0 w) (h0 : rState w0 cs x) (hp0 : rPoll w0 ps p) (hr : rises (·.id) x.polls) (hn : x.polls.length ≤ 100) (t : Nat) (y : PollD) (hy : x.polls[t]? = some y) (hid : y.id = p.id) :
    Calls Try.prog 27 #[.agg cs.toArray, .agg ps.toArray] w fun e w' => ∃ cs', e = .returned (.agg (Array.mk cs')) ∧ (∀ w'', Below w0.heap.size w0 w'' → (∀ k, w.heap.size ≤ k → k < w'.heap.size → w''.heap[k]? = w'.heap[k]?) → rState w'' cs' { x with polls := x.polls.set t p }) ∧ Below w.heap.size w w' := by
  have S0 := Lib.hid h0
  have SW := Lib.hid (h0.later hb0)
  have SP := Lib.hid hp0
  have hp := hp0.later hb0
  obtain ⟨u, vp, d, rfl, _, hu, hpo0, hd⟩ := h0
  have hpo := hpo0.later hb0 fun _ _ a => a
  clear hpo0 hb0 hp0
  obtain ⟨o1, n1, c1, rfl, _⟩ := hu
  obtain ⟨o2, n2, c2, rfl, l2, _, _, R2⟩ := hpo.open
  obtain ⟨o3, n3, c3, rfl, _⟩ := hd
  obtain ⟨qq, qs, qv, rfl, _, _, _, _, _, ⟨qm, qy, qa, qp, rfl, _, _, _, _, _, ⟨om, nm, cm, rfl, _⟩, ⟨oy, ny, cy, rfl, _⟩, ⟨oa, na, ca, rfl, _⟩, ⟨op, np, cp, rfl, _⟩⟩, ⟨os, ns', cs', rfl, _⟩, ⟨ov, nv, cv, rfl, _⟩⟩ := hp
  simp only [List.cons_append, List.nil_append] at SP ⊢
  have HB := Lib.hid (show Below w.heap.size w (((w.alloc (.cells #[.int .i64 x.clock, .slice o1 n1 c1, .slice o2 n2 c2, .slice o3 n3 c3] 26)).alloc (.cells #[.int .u32 p.id, .int .u32 p.owner, .int .i64 p.query.from_, .int .i64 p.query.to_, .int .i64 p.query.long, .int .i64 p.query.grid, .slice om nm cm, .slice oy ny cy, .int .i64 p.query.seats, .slice oa na ca, .slice op np cp, .slice os ns' cs', .slice ov nv cv, .int .i64 p.until_, .int .i64 p.state, .int .i64 p.winner] 64)).alloc (.cells #[.int .i64 0, .slice none 0 0, .slice none 0 0, .slice none 0 0] 26)) from (((Below.refl _ _).alloc (Nat.le_refl _) _).alloc (by simp) _).alloc (by simp; omega) _)
  have S2 := Lib.hid R2; have HR := Lib.hid hr; have L2 := Lib.hid l2
  have hin : t < n2 := by have := (List.getElem?_eq_some_iff.1 hy).1; omega
  have hin' : (t : Int) < (n2 : Int) := by omega
  have hn2 : n2 ≤ 100 := by omega
  have C := Lib.hid (fun (W : World) (hb : Below w.heap.size w W) => place_any _ x p.id W (SW.out.later hb) HR.out hn)
  have D := Lib.hid (fun (W : World) (hb : Below w.heap.size w W) => clone_rows (rPoll w0) (poll_one w0) o2 n2 c2 x.polls W (S2.out.later hb fun _ _ h => h) hn2)
  have HY := Lib.hid hy; have HI := Lib.hid hid
  clear hpo hr R2 l2 hy hid
  go_enter Try.func27, Try.ntmps27
  go_wp2_with fail
  (with_reducible refine (C.out _ HB.out).mono ?_)
  rintro e w1 ⟨i, f, rfl, hpl, hb1⟩
  obtain ⟨rfl, rfl⟩ := hpl.found HR.out HY.out HI.out
  clear hpl
  have kA1 : ∀ j, World.cell? w1 ⟨w.heap.size, j, none⟩ = World.cell? (w.alloc (.cells #[.int .i64 x.clock, .slice o1 n1 c1, .slice o2 n2 c2, .slice o3 n3 c3] 26)) ⟨w.heap.size, j, none⟩ := fun j => (hb1.cell (by simp; omega)).trans ((World.cell?_alloc_lt _ _ _ (by simp; omega)).trans (World.cell?_alloc_lt _ _ _ (by simp)))
  have kB1 : ∀ j, World.cell? w1 ⟨w.heap.size + 1, j, none⟩ = World.cell? ((w.alloc (.cells #[.int .i64 x.clock, .slice o1 n1 c1, .slice o2 n2 c2, .slice o3 n3 c3] 26)).alloc (.cells #[.int .u32 p.id, .int .u32 p.owner, .int .i64 p.query.from_, .int .i64 p.query.to_, .int .i64 p.query.long, .int .i64 p.query.grid, .slice om nm cm, .slice oy ny cy, .int .i64 p.query.seats, .slice oa na ca, .slice op np cp, .slice os ns' cs', .slice ov nv cv, .int .i64 p.until_, .int .i64 p.state, .int .i64 p.winner] 64)) ⟨w.heap.size + 1, j, none⟩ := fun j => (hb1.cell (by simp)).trans (World.cell?_alloc_lt _ _ _ (by simp))
  have kC1 : ∀ j, World.cell? w1 ⟨w.heap.size + 1 + 1, j, none⟩ = World.cell? (((w.alloc (.cells #[.int .i64 x.clock, .slice o1 n1 c1, .slice o2 n2 c2, .slice o3 n3 c3] 26)).alloc (.cells #[.int .u32 p.id, .int .u32 p.owner, .int .i64 p.query.from_, .int .i64 p.query.to_, .int .i64 p.query.long, .int .i64 p.query.grid, .slice om nm cm, .slice oy ny cy, .int .i64 p.query.seats, .slice oa na ca, .slice op np cp, .slice os ns' cs', .slice ov nv cv, .int .i64 p.until_, .int .i64 p.state, .int .i64 p.winner] 64)).alloc (.cells #[.int .i64 0, .slice none 0 0, .slice none 0 0, .slice none 0 0] 26)) ⟨w.heap.size + 1 + 1, j, none⟩ := fun j => hb1.cell (by simp)
  have zA1 : ∀ j, World.frozen? w1 ⟨w.heap.size, j, none⟩ = false := fun j => (hb1.frozen (by simp; omega)).trans (frozen_of_row _ _ _ _ _ ((heap_alloc_old _ _ (by simp; omega)).trans (heap_alloc2_old w _ _)))
  have zC1 : ∀ j, World.frozen? w1 ⟨w.heap.size + 1 + 1, j, none⟩ = false := fun j => (hb1.frozen (by simp)).trans (frozen_of_row _ _ _ _ _ (heap_alloc3_new w _ _ _))
  have hz1 : w.heap.size + 3 ≤ w1.heap.size := Nat.le_trans (by simp) hb1.size
  have HB1 := Lib.hid (below_call HB.out hb1)
  clear hb1
  go_wp2_with fail
  (with_reducible refine (D.out _ HB1.out).mono ?_)
  rintro e w2 ⟨v, news, rfl, hown, hnews, hb2⟩
  obtain ⟨o, cap, rfl⟩ : ∃ o cap, v = .slice o n2 cap := by
    rcases hown.2 with ⟨rfl, rfl⟩ | ⟨g, cap, _, rfl, _⟩
    · exact ⟨_, _, rfl⟩
    · exact ⟨_, _, rfl⟩
  obtain ⟨g, rfl⟩ : ∃ g, o = some ⟨g, 0, none⟩ := by
    rcases hown.2 with ⟨_, rfl⟩ | ⟨g, cap, _, e, _⟩
    · omega
    · simp only [Value.slice.injEq] at e; exact ⟨g, e.1⟩
  have hg := hown.lt g rfl
  have hgz := hg.2
  have hg3 : w.heap.size + 3 ≤ g := Nat.le_trans hz1 hg.1
  have kA2 : ∀ j, World.cell? w2 ⟨w.heap.size, j, none⟩ = World.cell? (w.alloc (.cells #[.int .i64 x.clock, .slice o1 n1 c1, .slice o2 n2 c2, .slice o3 n3 c3] 26)) ⟨w.heap.size, j, none⟩ := fun j => (hb2.cell (show w.heap.size < w1.heap.size by omega)).trans (kA1 j)
  have kB2 : ∀ j, World.cell? w2 ⟨w.heap.size + 1, j, none⟩ = World.cell? ((w.alloc (.cells #[.int .i64 x.clock, .slice o1 n1 c1, .slice o2 n2 c2, .slice o3 n3 c3] 26)).alloc (.cells #[.int .u32 p.id, .int .u32 p.owner, .int .i64 p.query.from_, .int .i64 p.query.to_, .int .i64 p.query.long, .int .i64 p.query.grid, .slice om nm cm, .slice oy ny cy, .int .i64 p.query.seats, .slice oa na ca, .slice op np cp, .slice os ns' cs', .slice ov nv cv, .int .i64 p.until_, .int .i64 p.state, .int .i64 p.winner] 64)) ⟨w.heap.size + 1, j, none⟩ := fun j => (hb2.cell (show w.heap.size + 1 < w1.heap.size by omega)).trans (kB1 j)
  have kC2 : ∀ j, World.cell? w2 ⟨w.heap.size + 1 + 1, j, none⟩ = World.cell? (((w.alloc (.cells #[.int .i64 x.clock, .slice o1 n1 c1, .slice o2 n2 c2, .slice o3 n3 c3] 26)).alloc (.cells #[.int .u32 p.id, .int .u32 p.owner, .int .i64 p.query.from_, .int .i64 p.query.to_, .int .i64 p.query.long, .int .i64 p.query.grid, .slice om nm cm, .slice oy ny cy, .int .i64 p.query.seats, .slice oa na ca, .slice op np cp, .slice os ns' cs', .slice ov nv cv, .int .i64 p.until_, .int .i64 p.state, .int .i64 p.winner] 64)).alloc (.cells #[.int .i64 0, .slice none 0 0, .slice none 0 0, .slice none 0 0] 26)) ⟨w.heap.size + 1 + 1, j, none⟩ := fun j => (hb2.cell (show w.heap.size + 1 + 1 < w1.heap.size by omega)).trans (kC1 j)
  have zA2 : ∀ j, World.frozen? w2 ⟨w.heap.size, j, none⟩ = false := fun j => (hb2.frozen (show w.heap.size < w1.heap.size by omega)).trans (zA1 j)
  have zC2 : ∀ j, World.frozen? w2 ⟨w.heap.size + 1 + 1, j, none⟩ = false := fun j => (hb2.frozen (show w.heap.size + 1 + 1 < w1.heap.size by omega)).trans (zC1 j)
  have zG : ∀ j, World.frozen? w2 ⟨g, j, none⟩ = false := fun j => hown.frozenAt j
  have hcell : ∀ j, j < 16 → ∃ u, w2.cell? ⟨g, i * 16 + j, none⟩ = some u := fun j hj => by
    rw [hown.cellAt _ (by omega), List.getElem?_eq_getElem (by rw [hown.1]; omega)]
    exact ⟨_, rfl⟩
  obtain ⟨_, e0⟩ := hcell 0 (by decide)
  obtain ⟨_, e1⟩ := hcell 1 (by decide)
  obtain ⟨_, e2⟩ := hcell 2 (by decide)
  obtain ⟨_, e3⟩ := hcell 3 (by decide)
  obtain ⟨_, e4⟩ := hcell 4 (by decide)
  obtain ⟨_, e5⟩ := hcell 5 (by decide)
  obtain ⟨_, e6⟩ := hcell 6 (by decide)
  obtain ⟨_, e7⟩ := hcell 7 (by decide)
  obtain ⟨_, e8⟩ := hcell 8 (by decide)
  obtain ⟨_, e9⟩ := hcell 9 (by decide)
  obtain ⟨_, e10⟩ := hcell 10 (by decide)
  obtain ⟨_, e11⟩ := hcell 11 (by decide)
  obtain ⟨_, e12⟩ := hcell 12 (by decide)
  obtain ⟨_, e13⟩ := hcell 13 (by decide)
  obtain ⟨_, e14⟩ := hcell 14 (by decide)
  obtain ⟨_, e15⟩ := hcell 15 (by decide)
  rw [Nat.add_zero] at e0
  have h01 : w.heap.size ≠ g := by omega
  have h02 : w.heap.size + 1 ≠ g := by omega
  have h03 : w.heap.size + 1 + 1 ≠ g := by omega
  have HO := Lib.hid hown; have HNW := Lib.hid hnews; have HB2 := Lib.hid (below_call HB1.out hb2)
  have hw1 := hz1
  have HBF := Lib.hid (Below.setCells (show w.heap.size ≤ w.heap.size + 1 + 1 by omega) [.int .i64 x.clock, .slice o1 n1 c1, .slice (some ⟨g, 0, none⟩) n2 cap, .slice o3 n3 c3] 0 _ (Below.setCells (show w.heap.size ≤ g by omega) [.int .u32 p.id, .int .u32 p.owner, .int .i64 p.query.from_, .int .i64 p.query.to_, .int .i64 p.query.long, .int .i64 p.query.grid, .slice om nm cm, .slice oy ny cy, .int .i64 p.query.seats, .slice oa na ca, .slice op np cp, .slice os ns' cs', .slice ov nv cv, .int .i64 p.until_, .int .i64 p.state, .int .i64 p.winner] (i * 16) _ (HB2.out.setCell (p := ⟨w.heap.size, 2, none⟩) (Nat.le_refl _) (.slice (some ⟨g, 0, none⟩) n2 cap))))
  have HCC := Lib.hid (chain_cells ((w2.setCell ⟨w.heap.size, 2, none⟩ (.slice (some ⟨g, 0, none⟩) n2 cap)).setCells g (i * 16) [.int .u32 p.id, .int .u32 p.owner, .int .i64 p.query.from_, .int .i64 p.query.to_, .int .i64 p.query.long, .int .i64 p.query.grid, .slice om nm cm, .slice oy ny cy, .int .i64 p.query.seats, .slice oa na ca, .slice op np cp, .slice os ns' cs', .slice ov nv cv, .int .i64 p.until_, .int .i64 p.state, .int .i64 p.winner]) (w.heap.size + 1 + 1) [.int .i64 x.clock, .slice o1 n1 c1, .slice (some ⟨g, 0, none⟩) n2 cap, .slice o3 n3 c3] (fun j hj => by
    rw [World.cell?_setCells_out _ _ _ _ _ (fun e => absurd e (by simp only; omega)), World.cell?_setCell_other _ _ _ _ (by intro e; injection e; omega), kC2, cell_of_row _ _ _ _ _ _ (heap_alloc3_new w _ _ _), Array.getElem?_eq_getElem (by simpa using hj)]; rfl))
  have HOF := Lib.hid (ownsRow_setCells_below (show w.heap.size + 1 + 1 < w1.heap.size by omega) [.int .i64 x.clock, .slice o1 n1 c1, .slice (some ⟨g, 0, none⟩) n2 cap, .slice o3 n3 c3] 0 _ _ (ownsRow_setCells [.int .u32 p.id, .int .u32 p.owner, .int .i64 p.query.from_, .int .i64 p.query.to_, .int .i64 p.query.long, .int .i64 p.query.grid, .slice om nm cm, .slice oy ny cy, .int .i64 p.query.seats, .slice oa na ca, .slice op np cp, .slice os ns' cs', .slice ov nv cv, .int .i64 p.until_, .int .i64 p.state, .int .i64 p.winner] (i * 16) _ _ (ownsRow_setCell_below HO.out (a := ⟨w.heap.size, 2, none⟩) (show w.heap.size < w1.heap.size by omega) (.slice (some ⟨g, 0, none⟩) n2 cap))))
  have HZ1 := Lib.hid hz1
  clear hown hnews hb2 hcell hg hw1 kA1 kB1 kC1 zA1 zC1 hz1
  go_wp2_with fail
  (try simp only [Exit.inBlock, Exit.then])
  refine bodyPost_ret (results_box1 rfl _ _ _ [.int .i64 x.clock, .slice o1 n1 c1, .slice (some ⟨g, 0, none⟩) n2 cap, .slice o3 n3 c3] _ rfl (fun j z hj => HCC.out j z hj) Try.underlying26 rfl size26) rfl ?_
  obtain ⟨u', p', d', e', wc, hu', _, hd'⟩ := S0.out
  simp only [List.cons.injEq] at e'
  obtain ⟨_, rfl, rfl, rfl, _⟩ := e'
  refine ⟨[.int .i64 x.clock, .slice o1 n1 c1, .slice (some ⟨g, 0, none⟩) n2 cap, .slice o3 n3 c3], rfl, fun w'' hb hk => ⟨_, _, _, rfl, wc, hu'.later hb fun _ _ => rUser.later hb, ?_, hd'.later' hb⟩, HBF.out⟩
  have hof : w''.ownsRow w1.heap.size 64 16 (.slice (some ⟨g, 0, none⟩) n2 cap) n2 _ := ⟨HOF.out.1, HOF.out.2.imp id fun ⟨g', c', cur, e, h1, h2, h3⟩ => ⟨g', c', cur, e, h1, (hk g' (by have := HZ1.out; omega) (Array.getElem?_eq_some_iff.1 h2).1).trans h2, h3⟩⟩
  refine Row.of_own hof (by simp [L2.out]) fun t z hz => ?_
  have hlen : i * 16 + 16 ≤ news.length := by rw [HO.out.1]; omega
  by_cases hti : t = i
  · subst hti
    rw [setL_part _ _ _ rfl hlen]
    simp only [List.getElem?_set_self (show t < x.polls.length by rw [L2.out]; exact hin), Option.some.injEq] at hz
    subst hz
    exact SP.out.later hb
  · rw [setL_other _ _ _ _ rfl hlen hti]
    simp only [List.getElem?_set_ne (show i ≠ t by omega)] at hz
    exact (HNW.out t z hz).later hb
end Go.Proofs.Ytcleicjgeflbnaa
