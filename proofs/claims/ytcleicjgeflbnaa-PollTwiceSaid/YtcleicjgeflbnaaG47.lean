/- The walk of with, the new poll read in every later world that keeps what was laid since; and what stands in memory while Vote goes on. Conditions: there is a poll of that number, the polls' numbers rise, there are at most a hundred. -/
import Derived.Test.YtcleicjgeflbnaaG25
import Derived.Test.YtcleicjgeflbnaaG33
namespace Go.Proofs.Ytcleicjgeflbnaa
open Go.RowKit Go.ChangeShapes Go.WideShapes Go.Deep

theorem below_alloc0' (w : World) (o : Obj) : Below w.heap.size w (w.alloc o) := (Below.refl _ _).alloc (Nat.le_refl _) o


/-- All that one world's cells say, another's say, too. -/
def Sub (w w' : World) : Prop := ∀ p v, w.cell? p = some v → w'.cell? p = some v
theorem Sub.refl (w : World) : Sub w w := fun _ _ h => h
theorem Sub.trans {a b c : World} (h : Sub a b) (k : Sub b c) : Sub a c := fun p v e => k p v (h p v e)
theorem Sub.of_below {w w' : World} (h : Below w.heap.size w w') : Sub w w' := fun p v e => (h.cell (World.block_lt_of_cell? w _ e)).trans e
section
variable {w w' : World}
theorem Row.sub {α : Type} {k : Nat} {R R' : List Value → α → Prop} {v : Value} {xs : List α} (hb : Sub w w') (hR : ∀ cs x, R cs x → R' cs x) : Row w k R v xs → Row w' k R' v xs := by
  rintro ⟨o, n, c, h1, h0, h2, h3, h4, h5⟩
  refine ⟨o, n, c, h1, h0, h2, h3, h4, fun i x hx => ?_⟩
  obtain ⟨a, cs, ha, hc, hj, hr⟩ := h5 i x hx
  refine ⟨a, cs, ha, hc, fun j hk => ?_, hR _ _ hr⟩
  have hs : cs[j]? = some (cs[j]'(by omega)) := List.getElem?_eq_getElem (by omega)
  have hx := hj j hk
  rw [hs] at hx ⊢
  exact hb _ _ hx
theorem Row.sub' {α : Type} {k : Nat} {R : List Value → α → Prop} {v : Value} {xs : List α} (hb : Sub w w') (h : Row w k R v xs) : Row w' k R v xs := h.sub hb fun _ _ a => a
theorem rSettings.sub (hb : Sub w w') : ∀ {cs : List Value} {x : SettingsD}, rSettings w cs x → rSettings w' cs x
  | _, _, ⟨t, h, o, a, b, c, d, e, f, g⟩ => ⟨t, h, o, a, b, c, d, e.sub' hb, f.sub' hb, g.sub' hb⟩
theorem rRule.sub (hb : Sub w w') : ∀ {cs : List Value} {x : RuleD}, rRule w cs x → rRule w' cs x
  | _, _, ⟨m, d, y, p, a, b, c, d', e, f, g1, g2, g3, g4⟩ => ⟨m, d, y, p, a, b, c, d', e, f, g1.sub' hb, g2.sub' hb, g3.sub' hb, g4.sub' hb⟩
theorem rEvent.sub (hb : Sub w w') : ∀ {cs : List Value} {x : EventD}, rEvent w cs x → rEvent w' cs x
  | _, _, ⟨r, e, p, c, a, b, d, h, g1, g2, g3⟩ => ⟨r, e, p, c, a, b, d, h.sub hb, g1.sub' hb, g2.sub' hb, g3.sub' hb⟩
theorem rEntry.sub (hb : Sub w w') : ∀ {cs : List Value} {x : EntryD}, rEntry w cs x → rEntry w' cs x
  | _, _, ⟨e, a, b, h⟩ => ⟨e, a, b, h.sub hb⟩
theorem rUser.sub (hb : Sub w w') : ∀ {cs : List Value} {x : UserD}, rUser w cs x → rUser w' cs x
  | _, _, ⟨s, v, a, b, c, h, g⟩ => ⟨s, v, a, b, c, h.sub hb, g.sub hb fun _ _ => rEntry.sub hb⟩
theorem rQuery.sub (hb : Sub w w') : ∀ {cs : List Value} {x : QueryD}, rQuery w cs x → rQuery w' cs x
  | _, _, ⟨m, y, a, p, e, b, c, d, f, g, g1, g2, g3, g4⟩ => ⟨m, y, a, p, e, b, c, d, f, g, g1.sub' hb, g2.sub' hb, g3.sub' hb, g4.sub' hb⟩
theorem rPoll.sub (hb : Sub w w') : ∀ {cs : List Value} {x : PollD}, rPoll w cs x → rPoll w' cs x
  | _, _, ⟨q, s, v, e, a, b, c, d, f, h, g1, g2⟩ => ⟨q, s, v, e, a, b, c, d, f, h.sub hb, g1.sub' hb, g2.sub' hb⟩
theorem rState.sub (hb : Sub w w') : ∀ {cs : List Value} {x : StateD}, rState w cs x → rState w' cs x
  | _, _, ⟨u, p, d, e, a, g1, g2, g3⟩ => ⟨u, p, d, e, a, g1.sub hb fun _ _ => rUser.sub hb, g2.sub hb fun _ _ => rPoll.sub hb, g3.sub' hb⟩
end

set_option maxHeartbeats 2000000 in
set_option maxRecDepth 100000 in
theorem find_to (cs : List Value) (x : StateD) (id : Int) (w0 w : World) (hb0 : Sub w0 w) (h0 : rState w0 cs x) (hr : rises (·.id) x.polls) (hn : x.polls.length ≤ 100) :
    Calls Try.prog 20 #[.agg cs.toArray, .int .u32 id] w fun e w' => ∃ cs' f y, e = .returned (.tuple #[.agg (Array.mk cs'), .bool f]) ∧ Found x.polls id f y ∧ rPoll w0 cs' y ∧ Below w.heap.size w w' := by
  have h := h0.sub hb0
  have SW := Lib.hid h
  obtain ⟨u, p, d, rfl, _, hu, hp0, hd⟩ := h0
  have hp := hp0.sub hb0 fun _ _ a => a
  clear h hp0 hb0
  obtain ⟨o1, n1, c1, rfl, _⟩ := hu
  obtain ⟨o2, n2, c2, rfl, l2, _, _, R2⟩ := hp.open
  obtain ⟨o3, n3, c3, rfl, _⟩ := hd
  have HB := Lib.hid (show Below w.heap.size w ((w.alloc (.cells #[.int .i64 x.clock, .slice o1 n1 c1, .slice o2 n2 c2, .slice o3 n3 c3] 26)).alloc (.cells pollZero.toArray 64)) from ((Below.refl _ _).alloc (Nat.le_refl _) _).alloc (by simp) _)
  have S2 := Lib.hid R2; have HR := Lib.hid hr; have L2 := Lib.hid l2
  have C := Lib.hid (fun (W : World) (hb : Below w.heap.size w W) => place_any _ x id W (SW.out.later hb) HR.out hn)
  clear hp hr R2 l2
  go_enter Try.func20, Try.ntmps20
  go_wp2_with fail
  (with_reducible refine (C.out _ HB.out).mono ?_)
  rintro e w1 ⟨i, f, rfl, hpl, hb1⟩
  have kA1 : ∀ j, World.cell? w1 ⟨w.heap.size, j, none⟩ = World.cell? (w.alloc (.cells #[.int .i64 x.clock, .slice o1 n1 c1, .slice o2 n2 c2, .slice o3 n3 c3] 26)) ⟨w.heap.size, j, none⟩ := fun j => (hb1.cell (by simp; omega)).trans (World.cell?_alloc_lt _ _ _ (by simp))
  have kB1 : ∀ j, World.cell? w1 ⟨w.heap.size + 1, j, none⟩ = World.cell? ((w.alloc (.cells #[.int .i64 x.clock, .slice o1 n1 c1, .slice o2 n2 c2, .slice o3 n3 c3] 26)).alloc (.cells pollZero.toArray 64)) ⟨w.heap.size + 1, j, none⟩ := fun j => hb1.cell (by simp)
  have zB1 : ∀ j, World.frozen? w1 ⟨w.heap.size + 1, j, none⟩ = false := fun j => (hb1.frozen (by simp)).trans (frozen_of_row _ _ _ _ _ (heap_alloc2_new w _ _))
  have KB := Lib.hid (show ∀ j, j < 16 → (World.cell? w1 ⟨w.heap.size + 1, j, none⟩).isSome = true from fun j hj => by
    rw [kB1, cell_of_row _ _ _ _ _ _ (heap_alloc2_new w _ _), Array.getElem?_eq_getElem hj]; rfl)
  have HB2 := Lib.hid (below_call HB.out hb1)
  have HP := Lib.hid hpl
  clear hb1 hpl
  cases f with
  | false =>
    go_wp2_with fail
    (try simp only [Exit.inBlock, Exit.then])
    refine bodyPost_ret (results_box2 rfl _ _ _ pollZero _ rfl (fun j y hj => chain_cells w1 _ pollZero KB.out j y hj) Try.underlying64 rfl size64) rfl ?_
    refine ⟨pollZero, false, _, rfl, .inr ⟨rfl, rfl, fun t p hp e => ?_⟩, rPoll_zero _, Below.setCells (by simp) pollZero 0 w1 HB2.out⟩
    have h1 := HP.out
    by_cases ht : t < i
    · have := h1.lt t p ht hp; omega
    · have hq : x.polls[i]? = some (x.polls[i]'(by have := (List.getElem?_eq_some_iff.1 hp).1; omega)) := List.getElem?_eq_getElem _
      have h2 := h1.ge i _ (Nat.le_refl _) hq
      have h3 := rises_le HR.out (Nat.le_of_not_lt ht) hq hp
      refine absurd h1.is.symm (by rw [dec_t ⟨_, hq, by omega⟩]; decide)
  | true =>
    obtain ⟨y, hy, hyid⟩ := dec_iff.1 (HP.out.is.symm)
    have hin : i < n2 := by have := (List.getElem?_eq_some_iff.1 hy).1; have := L2.out; omega
    have hin' : (i : Int) < (n2 : Int) := by omega
    obtain ⟨y', a1, cs1, hx, rfl, q1, q3, q0, q2⟩ := S2.out.elem HB2.out i hin
    rw [hy] at hx
    cases hx
    have SR := Lib.hid q3
    obtain ⟨qq, qs, qv, rfl, _, _, _, _, _, ⟨qm, qy, qa, qp, rfl, _, _, _, _, _, ⟨om, nm, cm, rfl, _⟩, ⟨oy, ny, cy, rfl, _⟩, ⟨oa, na, ca, rfl, _⟩, ⟨op, np, cp, rfl, _⟩⟩, ⟨os, ns', cs', rfl, _⟩, ⟨ov, nv, cv, rfl, _⟩⟩ := q3
    simp only [List.cons_append, List.nil_append] at q0 q2 SR
    have e0 := q0 (by decide)
    have e1 := q2 1 (by decide) (by decide)
    have e2 := q2 2 (by decide) (by decide)
    have e3 := q2 3 (by decide) (by decide)
    have e4 := q2 4 (by decide) (by decide)
    have e5 := q2 5 (by decide) (by decide)
    have e6 := q2 6 (by decide) (by decide)
    have e7 := q2 7 (by decide) (by decide)
    have e8 := q2 8 (by decide) (by decide)
    have e9 := q2 9 (by decide) (by decide)
    have e10 := q2 10 (by decide) (by decide)
    have e11 := q2 11 (by decide) (by decide)
    have e12 := q2 12 (by decide) (by decide)
    have e13 := q2 13 (by decide) (by decide)
    have e14 := q2 14 (by decide) (by decide)
    have e15 := q2 15 (by decide) (by decide)
    simp only [List.getElem?_cons_zero, List.getElem?_cons_succ] at e0 e1 e2 e3 e4 e5 e6 e7 e8 e9 e10 e11 e12 e13 e14 e15
    have HCC := Lib.hid (chain_cells w1 (w.heap.size + 1) [.int .u32 y.id, .int .u32 y.owner, .int .i64 y.query.from_, .int .i64 y.query.to_, .int .i64 y.query.long, .int .i64 y.query.grid, .slice om nm cm, .slice oy ny cy, .int .i64 y.query.seats, .slice oa na ca, .slice op np cp, .slice os ns' cs', .slice ov nv cv, .int .i64 y.until_, .int .i64 y.state, .int .i64 y.winner] KB.out)
    have HBB := Lib.hid (Below.setCells (show w.heap.size ≤ w.heap.size + 1 by omega) [.int .u32 y.id, .int .u32 y.owner, .int .i64 y.query.from_, .int .i64 y.query.to_, .int .i64 y.query.long, .int .i64 y.query.grid, .slice om nm cm, .slice oy ny cy, .int .i64 y.query.seats, .slice oa na ca, .slice op np cp, .slice os ns' cs', .slice ov nv cv, .int .i64 y.until_, .int .i64 y.state, .int .i64 y.winner] 0 w1 HB2.out)
    have Hy := Lib.hid hy; have HI := Lib.hid hyid
    clear q0 q1 q2 hy hyid
    go_wp2_with fail
    (try simp only [Exit.inBlock, Exit.then])
    refine bodyPost_ret (results_box2 rfl _ _ _ [.int .u32 y.id, .int .u32 y.owner, .int .i64 y.query.from_, .int .i64 y.query.to_, .int .i64 y.query.long, .int .i64 y.query.grid, .slice om nm cm, .slice oy ny cy, .int .i64 y.query.seats, .slice oa na ca, .slice op np cp, .slice os ns' cs', .slice ov nv cv, .int .i64 y.until_, .int .i64 y.state, .int .i64 y.winner] _ rfl (fun j z hj => HCC.out j z hj) Try.underlying64 rfl size64) rfl ?_
    exact ⟨_, true, y, rfl, .inl ⟨rfl, i, Hy.out, HI.out⟩, SR.out, HBB.out⟩
set_option maxHeartbeats 4000000 in
set_option maxRecDepth 100000 in
theorem with_to (cs ps : List Value) (x : StateD) (p : PollD) (w0 w : World) (m : Nat) (hm : m ≤ w.heap.size) (hb0 : Sub w0 w) (h0 : rState w0 cs x) (hp0 : ∀ w'', Sub w0 w'' → (∀ k, m ≤ k → k < w.heap.size → w''.heap[k]? = w.heap[k]?) → rPoll w'' ps p) (hr : rises (·.id) x.polls) (hn : x.polls.length ≤ 100) (t : Nat) (y : PollD) (hy : x.polls[t]? = some y) (hid : y.id = p.id) :
    Calls Try.prog 27 #[.agg cs.toArray, .agg ps.toArray] w fun e w' => ∃ cs', e = .returned (.agg (Array.mk cs')) ∧ (∀ w'', Sub w0 w'' → (∀ k, m ≤ k → k < w'.heap.size → w''.heap[k]? = w'.heap[k]?) → rState w'' cs' { x with polls := x.polls.set t p }) ∧ Below w.heap.size w w' := by
  have S0 := Lib.hid h0
  have SW := Lib.hid (h0.sub hb0)
  have SP := Lib.hid hp0
  have hp := hp0 w hb0 (fun _ _ _ => rfl)
  obtain ⟨u, vp, d, rfl, _, hu, hpo0, hd⟩ := h0
  have hpo := hpo0.sub hb0 fun _ _ a => a
  clear hpo0 hb0 hp0
  obtain ⟨o1, n1, c1, rfl, _⟩ := hu
  obtain ⟨o2, n2, c2, rfl, l2, _, _, R2⟩ := hpo.open
  obtain ⟨o3, n3, c3, rfl, _⟩ := hd
  obtain ⟨qq, qs, qv, rfl, _, _, _, _, _, ⟨qm, qy, qa, qp, rfl, _, _, _, _, _, ⟨om, nm, cm, rfl, _⟩, ⟨oy, ny, cy, rfl, _⟩, ⟨oa, na, ca, rfl, _⟩, ⟨op, np, cp, rfl, _⟩⟩, ⟨os, ns', cs', rfl, _⟩, ⟨ov, nv, cv, rfl, _⟩⟩ := hp
  simp only [List.cons_append, List.nil_append] at SP ⊢
  have HB := Lib.hid (show Below w.heap.size w (((w.alloc (.cells #[.int .i64 x.clock, .slice o1 n1 c1, .slice o2 n2 c2, .slice o3 n3 c3] 26)).alloc (.cells #[.int .u32 p.id, .int .u32 p.owner, .int .i64 p.query.from_, .int .i64 p.query.to_, .int .i64 p.query.long, .int .i64 p.query.grid, .slice om nm cm, .slice oy ny cy, .int .i64 p.query.seats, .slice oa na ca, .slice op np cp, .slice os ns' cs', .slice ov nv cv, .int .i64 p.until_, .int .i64 p.state, .int .i64 p.winner] 64)).alloc (.cells #[.int .i64 0, .slice none 0 0, .slice none 0 0, .slice none 0 0] 26)) from (((Below.refl _ _).alloc (Nat.le_refl _) _).alloc (by simp) _).alloc (by simp; omega) _)
  have S2 := Lib.hid R2; have HR := Lib.hid hr; have L2 := Lib.hid l2
  have hin : t < n2 := by have := (List.getElem?_eq_some_iff.1 hy).1; omega
  have hin' : (t : Int) < (n2 : Int) := by omega
  have hn2 : n2 ≤ 100 := by omega
  have C := Lib.hid (fun (W : World) (hb : Below w.heap.size w W) => place_any _ x p.id W (SW.out.later hb) HR.out hn)
  have D := Lib.hid (fun (W : World) (hb : Below w.heap.size w W) => clone_rows (rPoll w0) (poll_one w0) o2 n2 c2 x.polls W (S2.out.later hb fun _ _ h => h) hn2)
  have HY := Lib.hid hy; have HI := Lib.hid hid
  clear hpo hr R2 l2 hy hid
  go_enter Try.func27, Try.ntmps27
  go_wp2_with fail
  (with_reducible refine (C.out _ HB.out).mono ?_)
  rintro e w1 ⟨i, f, rfl, hpl, hb1⟩
  obtain ⟨rfl, rfl⟩ := hpl.found HR.out HY.out HI.out
  clear hpl
  have kA1 : ∀ j, World.cell? w1 ⟨w.heap.size, j, none⟩ = World.cell? (w.alloc (.cells #[.int .i64 x.clock, .slice o1 n1 c1, .slice o2 n2 c2, .slice o3 n3 c3] 26)) ⟨w.heap.size, j, none⟩ := fun j => (hb1.cell (by simp; omega)).trans ((World.cell?_alloc_lt _ _ _ (by simp; omega)).trans (World.cell?_alloc_lt _ _ _ (by simp)))
  have kB1 : ∀ j, World.cell? w1 ⟨w.heap.size + 1, j, none⟩ = World.cell? ((w.alloc (.cells #[.int .i64 x.clock, .slice o1 n1 c1, .slice o2 n2 c2, .slice o3 n3 c3] 26)).alloc (.cells #[.int .u32 p.id, .int .u32 p.owner, .int .i64 p.query.from_, .int .i64 p.query.to_, .int .i64 p.query.long, .int .i64 p.query.grid, .slice om nm cm, .slice oy ny cy, .int .i64 p.query.seats, .slice oa na ca, .slice op np cp, .slice os ns' cs', .slice ov nv cv, .int .i64 p.until_, .int .i64 p.state, .int .i64 p.winner] 64)) ⟨w.heap.size + 1, j, none⟩ := fun j => (hb1.cell (by simp)).trans (World.cell?_alloc_lt _ _ _ (by simp))
  have kC1 : ∀ j, World.cell? w1 ⟨w.heap.size + 1 + 1, j, none⟩ = World.cell? (((w.alloc (.cells #[.int .i64 x.clock, .slice o1 n1 c1, .slice o2 n2 c2, .slice o3 n3 c3] 26)).alloc (.cells #[.int .u32 p.id, .int .u32 p.owner, .int .i64 p.query.from_, .int .i64 p.query.to_, .int .i64 p.query.long, .int .i64 p.query.grid, .slice om nm cm, .slice oy ny cy, .int .i64 p.query.seats, .slice oa na ca, .slice op np cp, .slice os ns' cs', .slice ov nv cv, .int .i64 p.until_, .int .i64 p.state, .int .i64 p.winner] 64)).alloc (.cells #[.int .i64 0, .slice none 0 0, .slice none 0 0, .slice none 0 0] 26)) ⟨w.heap.size + 1 + 1, j, none⟩ := fun j => hb1.cell (by simp)
  have zA1 : ∀ j, World.frozen? w1 ⟨w.heap.size, j, none⟩ = false := fun j => (hb1.frozen (by simp; omega)).trans (frozen_of_row _ _ _ _ _ ((heap_alloc_old _ _ (by simp; omega)).trans (heap_alloc2_old w _ _)))
  have zC1 : ∀ j, World.frozen? w1 ⟨w.heap.size + 1 + 1, j, none⟩ = false := fun j => (hb1.frozen (by simp)).trans (frozen_of_row _ _ _ _ _ (heap_alloc3_new w _ _ _))
  have hz1 : w.heap.size + 3 ≤ w1.heap.size := Nat.le_trans (by simp) hb1.size
  have HB1 := Lib.hid (below_call HB.out hb1)
  clear hb1
  go_wp2_with fail
  (with_reducible refine (D.out _ HB1.out).mono ?_)
  rintro e w2 ⟨v, news, rfl, hown, hnews, hb2⟩
  obtain ⟨o, cap, rfl⟩ : ∃ o cap, v = .slice o n2 cap := by
    rcases hown.2 with ⟨rfl, rfl⟩ | ⟨g, cap, _, rfl, _⟩
    · exact ⟨_, _, rfl⟩
    · exact ⟨_, _, rfl⟩
  obtain ⟨g, rfl⟩ : ∃ g, o = some ⟨g, 0, none⟩ := by
    rcases hown.2 with ⟨_, rfl⟩ | ⟨g, cap, _, e, _⟩
    · omega
    · simp only [Value.slice.injEq] at e; exact ⟨g, e.1⟩
  have hg := hown.lt g rfl
  have hgz := hg.2
  have hg3 : w.heap.size + 3 ≤ g := Nat.le_trans hz1 hg.1
  have kA2 : ∀ j, World.cell? w2 ⟨w.heap.size, j, none⟩ = World.cell? (w.alloc (.cells #[.int .i64 x.clock, .slice o1 n1 c1, .slice o2 n2 c2, .slice o3 n3 c3] 26)) ⟨w.heap.size, j, none⟩ := fun j => (hb2.cell (show w.heap.size < w1.heap.size by omega)).trans (kA1 j)
  have kB2 : ∀ j, World.cell? w2 ⟨w.heap.size + 1, j, none⟩ = World.cell? ((w.alloc (.cells #[.int .i64 x.clock, .slice o1 n1 c1, .slice o2 n2 c2, .slice o3 n3 c3] 26)).alloc (.cells #[.int .u32 p.id, .int .u32 p.owner, .int .i64 p.query.from_, .int .i64 p.query.to_, .int .i64 p.query.long, .int .i64 p.query.grid, .slice om nm cm, .slice oy ny cy, .int .i64 p.query.seats, .slice oa na ca, .slice op np cp, .slice os ns' cs', .slice ov nv cv, .int .i64 p.until_, .int .i64 p.state, .int .i64 p.winner] 64)) ⟨w.heap.size + 1, j, none⟩ := fun j => (hb2.cell (show w.heap.size + 1 < w1.heap.size by omega)).trans (kB1 j)
  have kC2 : ∀ j, World.cell? w2 ⟨w.heap.size + 1 + 1, j, none⟩ = World.cell? (((w.alloc (.cells #[.int .i64 x.clock, .slice o1 n1 c1, .slice o2 n2 c2, .slice o3 n3 c3] 26)).alloc (.cells #[.int .u32 p.id, .int .u32 p.owner, .int .i64 p.query.from_, .int .i64 p.query.to_, .int .i64 p.query.long, .int .i64 p.query.grid, .slice om nm cm, .slice oy ny cy, .int .i64 p.query.seats, .slice oa na ca, .slice op np cp, .slice os ns' cs', .slice ov nv cv, .int .i64 p.until_, .int .i64 p.state, .int .i64 p.winner] 64)).alloc (.cells #[.int .i64 0, .slice none 0 0, .slice none 0 0, .slice none 0 0] 26)) ⟨w.heap.size + 1 + 1, j, none⟩ := fun j => (hb2.cell (show w.heap.size + 1 + 1 < w1.heap.size by omega)).trans (kC1 j)
  have zA2 : ∀ j, World.frozen? w2 ⟨w.heap.size, j, none⟩ = false := fun j => (hb2.frozen (show w.heap.size < w1.heap.size by omega)).trans (zA1 j)
  have zC2 : ∀ j, World.frozen? w2 ⟨w.heap.size + 1 + 1, j, none⟩ = false := fun j => (hb2.frozen (show w.heap.size + 1 + 1 < w1.heap.size by omega)).trans (zC1 j)
  have zG : ∀ j, World.frozen? w2 ⟨g, j, none⟩ = false := fun j => hown.frozenAt j
  have hcell : ∀ j, j < 16 → ∃ u, w2.cell? ⟨g, i * 16 + j, none⟩ = some u := fun j hj => by
    rw [hown.cellAt _ (by omega), List.getElem?_eq_getElem (by rw [hown.1]; omega)]
    exact ⟨_, rfl⟩
  obtain ⟨_, e0⟩ := hcell 0 (by decide)
  obtain ⟨_, e1⟩ := hcell 1 (by decide)
  obtain ⟨_, e2⟩ := hcell 2 (by decide)
  obtain ⟨_, e3⟩ := hcell 3 (by decide)
  obtain ⟨_, e4⟩ := hcell 4 (by decide)
  obtain ⟨_, e5⟩ := hcell 5 (by decide)
  obtain ⟨_, e6⟩ := hcell 6 (by decide)
  obtain ⟨_, e7⟩ := hcell 7 (by decide)
  obtain ⟨_, e8⟩ := hcell 8 (by decide)
  obtain ⟨_, e9⟩ := hcell 9 (by decide)
  obtain ⟨_, e10⟩ := hcell 10 (by decide)
  obtain ⟨_, e11⟩ := hcell 11 (by decide)
  obtain ⟨_, e12⟩ := hcell 12 (by decide)
  obtain ⟨_, e13⟩ := hcell 13 (by decide)
  obtain ⟨_, e14⟩ := hcell 14 (by decide)
  obtain ⟨_, e15⟩ := hcell 15 (by decide)
  rw [Nat.add_zero] at e0
  have h01 : w.heap.size ≠ g := by omega
  have h02 : w.heap.size + 1 ≠ g := by omega
  have h03 : w.heap.size + 1 + 1 ≠ g := by omega
  have HO := Lib.hid hown; have HNW := Lib.hid hnews; have HB2 := Lib.hid (below_call HB1.out hb2)
  have hw1 := hz1
  have HBF := Lib.hid (Below.setCells (show w.heap.size ≤ w.heap.size + 1 + 1 by omega) [.int .i64 x.clock, .slice o1 n1 c1, .slice (some ⟨g, 0, none⟩) n2 cap, .slice o3 n3 c3] 0 _ (Below.setCells (show w.heap.size ≤ g by omega) [.int .u32 p.id, .int .u32 p.owner, .int .i64 p.query.from_, .int .i64 p.query.to_, .int .i64 p.query.long, .int .i64 p.query.grid, .slice om nm cm, .slice oy ny cy, .int .i64 p.query.seats, .slice oa na ca, .slice op np cp, .slice os ns' cs', .slice ov nv cv, .int .i64 p.until_, .int .i64 p.state, .int .i64 p.winner] (i * 16) _ (HB2.out.setCell (p := ⟨w.heap.size, 2, none⟩) (Nat.le_refl _) (.slice (some ⟨g, 0, none⟩) n2 cap))))
  have HCC := Lib.hid (chain_cells ((w2.setCell ⟨w.heap.size, 2, none⟩ (.slice (some ⟨g, 0, none⟩) n2 cap)).setCells g (i * 16) [.int .u32 p.id, .int .u32 p.owner, .int .i64 p.query.from_, .int .i64 p.query.to_, .int .i64 p.query.long, .int .i64 p.query.grid, .slice om nm cm, .slice oy ny cy, .int .i64 p.query.seats, .slice oa na ca, .slice op np cp, .slice os ns' cs', .slice ov nv cv, .int .i64 p.until_, .int .i64 p.state, .int .i64 p.winner]) (w.heap.size + 1 + 1) [.int .i64 x.clock, .slice o1 n1 c1, .slice (some ⟨g, 0, none⟩) n2 cap, .slice o3 n3 c3] (fun j hj => by
    rw [World.cell?_setCells_out _ _ _ _ _ (fun e => absurd e (by simp only; omega)), World.cell?_setCell_other _ _ _ _ (by intro e; injection e; omega), kC2, cell_of_row _ _ _ _ _ _ (heap_alloc3_new w _ _ _), Array.getElem?_eq_getElem (by simpa using hj)]; rfl))
  have HOF := Lib.hid (ownsRow_setCells_below (show w.heap.size + 1 + 1 < w1.heap.size by omega) [.int .i64 x.clock, .slice o1 n1 c1, .slice (some ⟨g, 0, none⟩) n2 cap, .slice o3 n3 c3] 0 _ _ (ownsRow_setCells [.int .u32 p.id, .int .u32 p.owner, .int .i64 p.query.from_, .int .i64 p.query.to_, .int .i64 p.query.long, .int .i64 p.query.grid, .slice om nm cm, .slice oy ny cy, .int .i64 p.query.seats, .slice oa na ca, .slice op np cp, .slice os ns' cs', .slice ov nv cv, .int .i64 p.until_, .int .i64 p.state, .int .i64 p.winner] (i * 16) _ _ (ownsRow_setCell_below HO.out (a := ⟨w.heap.size, 2, none⟩) (show w.heap.size < w1.heap.size by omega) (.slice (some ⟨g, 0, none⟩) n2 cap))))
  have HZ1 := Lib.hid hz1
  clear hown hnews hb2 hcell hg hw1 kA1 kB1 kC1 zA1 zC1 hz1
  go_wp2_with fail
  (try simp only [Exit.inBlock, Exit.then])
  refine bodyPost_ret (results_box1 rfl _ _ _ [.int .i64 x.clock, .slice o1 n1 c1, .slice (some ⟨g, 0, none⟩) n2 cap, .slice o3 n3 c3] _ rfl (fun j z hj => HCC.out j z hj) Try.underlying26 rfl size26) rfl ?_
  obtain ⟨u', p', d', e', wc, hu', _, hd'⟩ := S0.out
  simp only [List.cons.injEq] at e'
  obtain ⟨_, rfl, rfl, rfl, _⟩ := e'
  refine ⟨[.int .i64 x.clock, .slice o1 n1 c1, .slice (some ⟨g, 0, none⟩) n2 cap, .slice o3 n3 c3], rfl, fun w'' hb hk => ⟨_, _, _, rfl, wc, hu'.sub hb fun _ _ => rUser.sub hb, ?_, hd'.sub hb fun _ _ a => a⟩, HBF.out⟩
  have hof : w''.ownsRow w1.heap.size 64 16 (.slice (some ⟨g, 0, none⟩) n2 cap) n2 _ := ⟨HOF.out.1, HOF.out.2.imp id fun ⟨g', c', cur, e, h1, h2, h3⟩ => ⟨g', c', cur, e, h1, (hk g' (by have := HZ1.out; have := hm; omega) (Array.getElem?_eq_some_iff.1 h2).1).trans h2, h3⟩⟩
  refine Row.of_own hof (by simp [L2.out]) fun t z hz => ?_
  have hlen : i * 16 + 16 ≤ news.length := by rw [HO.out.1]; omega
  by_cases hti : t = i
  · subst hti
    rw [setL_part _ _ _ rfl hlen]
    simp only [List.getElem?_set_self (show t < x.polls.length by rw [L2.out]; exact hin), Option.some.injEq] at hz
    subst hz
    exact SP.out w'' hb fun k h1 h2 => (hk k h1 (Nat.lt_of_lt_of_le h2 HBF.out.size)).trans (HBF.out.block k h2)
  · rw [setL_other _ _ _ _ rfl hlen hti]
    simp only [List.getElem?_set_ne (show i ≠ t by omega)] at hz
    exact (HNW.out t z hz).sub hb

/-- What stands in memory while Vote goes on: its boxes of the state, the question, the result, the poll. -/
structure VI (w : World) (g : Nat) (S A Z L : Array Value) (W : World) : Prop where
  ha : W.heap[w.heap.size]? = some (.cells S 26 (0, 0))
  hb : W.heap[w.heap.size + 1]? = some (.cells A 54 (0, 0))
  hc : W.heap[w.heap.size + 1 + 1]? = some (.cells Z 26 (0, 0))
  hg : W.heap[g]? = some (.cells L 64 (0, 0))
  lt : w.heap.size + 1 + 1 < g
  below : Below w.heap.size w W
section
variable {w W W' w1 : World} {g : Nat} {S A Z L : Array Value}
theorem VI.ltW (h : VI w g S A Z L W) : g < W.heap.size := (Array.getElem?_eq_some_iff.1 h.hg).1
theorem VI.call (h : VI w g S A Z L W) {n : Nat} (hn : g < n) (hb : Below n W W') : VI w g S A Z L W' :=
  have hl := h.lt
  ⟨(hb.block _ (by omega)).trans h.ha, (hb.block _ (by omega)).trans h.hb, (hb.block _ (by omega)).trans h.hc, (hb.block _ hn).trans h.hg, h.lt, h.below.trans (hb.mono (by omega))⟩
theorem VI.later (h : VI w g S A Z L W) (hb : Below W.heap.size W W') : VI w g S A Z L W' := h.call h.ltW hb
theorem VI.alloc (h : VI w g S A Z L W) (o : Obj) : VI w g S A Z L (W.alloc o) := h.later (below_alloc0' W o)
theorem VI.drew (h : VI w g S A Z L W) : VI w g S A Z L W.drew := ⟨h.ha, h.hb, h.hc, h.hg, h.lt, h.below.drew⟩
theorem VI.setL (h : VI w g S A Z L W) (i : Nat) (v : Value) : VI w g S A Z (L.setIfInBounds i v) (W.setCell ⟨g, i, none⟩ v) :=
  have hl := h.lt
  ⟨(Below.heap_setCell _ _ _ _ (by simp only; omega)).trans h.ha, (Below.heap_setCell _ _ _ _ (by simp only; omega)).trans h.hb, (Below.heap_setCell _ _ _ _ (by simp only; omega)).trans h.hc, by rw [heap_setCell_same W g i _ _ _ h.hg], h.lt, h.below.setCell (by simp only; omega) _⟩
theorem VI.kA (h : VI w g S A Z L W) : ∀ j, World.cell? W ⟨w.heap.size, j, none⟩ = World.cell? (w.alloc (.cells S 26)) ⟨w.heap.size, j, none⟩ := fun j => (cell_of_row W _ j _ _ _ h.ha).trans (cell_of_row _ _ j _ _ _ (heap_alloc_new w _)).symm
theorem VI.kB (h : VI w g S A Z L W) : ∀ j, World.cell? W ⟨w.heap.size + 1, j, none⟩ = World.cell? ((w.alloc (.cells S 26)).alloc (.cells A 54)) ⟨w.heap.size + 1, j, none⟩ := fun j => (cell_of_row W _ j _ _ _ h.hb).trans (cell_of_row _ _ j _ _ _ (heap_alloc2_new w _ _)).symm
theorem VI.kC (h : VI w g S A Z L W) : ∀ j, World.cell? W ⟨w.heap.size + 1 + 1, j, none⟩ = World.cell? (((w.alloc (.cells S 26)).alloc (.cells A 54)).alloc (.cells Z 26)) ⟨w.heap.size + 1 + 1, j, none⟩ := fun j => (cell_of_row W _ j _ _ _ h.hc).trans (cell_of_row _ _ j _ _ _ (heap_alloc3_new w _ _ _)).symm
theorem VI.kP (h : VI w w1.heap.size S A Z L W) : ∀ j, World.cell? W ⟨w1.heap.size, j, none⟩ = World.cell? (w1.alloc (.cells L 64)) ⟨w1.heap.size, j, none⟩ := fun j => (cell_of_row W _ j _ _ _ h.hg).trans (cell_of_row _ _ j _ _ _ (heap_alloc_new w1 _)).symm
theorem VI.zC (h : VI w g S A Z L W) : ∀ j, World.frozen? W ⟨w.heap.size + 1 + 1, j, none⟩ = false := fun j => frozen_of_row _ _ _ _ _ h.hc
theorem VI.zP (h : VI w g S A Z L W) : ∀ j, World.frozen? W ⟨g, j, none⟩ = false := fun j => frozen_of_row _ _ _ _ _ h.hg
theorem VI.c4 (h : VI w g S A #[.int .i64 0, .slice none 0 0, .slice none 0 0, .slice none 0 0] L W) : W.cell? ⟨w.heap.size + 1 + 1, 0, none⟩ = some (.int .i64 0) ∧ W.cell? ⟨w.heap.size + 1 + 1, 1, none⟩ = some (.slice none 0 0) ∧ W.cell? ⟨w.heap.size + 1 + 1, 2, none⟩ = some (.slice none 0 0) ∧ W.cell? ⟨w.heap.size + 1 + 1, 3, none⟩ = some (.slice none 0 0) :=
  ⟨by rw [cell_of_row _ _ _ _ _ _ h.hc]; rfl, by rw [cell_of_row _ _ _ _ _ _ h.hc]; rfl, by rw [cell_of_row _ _ _ _ _ _ h.hc]; rfl, by rw [cell_of_row _ _ _ _ _ _ h.hc]; rfl⟩
end
end Go.Proofs.Ytcleicjgeflbnaa
