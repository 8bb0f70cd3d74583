/- The walk of Find: a poll by its number. Conditions: the polls' numbers rise, and there are at most a hundred. -/
import Derived.Test.YtcleicjgeflbnaaG20
import Derived.Laws.IdiomCopy
namespace Go.Proofs.Ytcleicjgeflbnaa
open Go.RowKit Go.ChangeShapes Go.WideShapes Go.Deep

theorem run_loadVar_cells {P : Program} (w : World) (g : Nat) (ty : TypeId) (cs : List Value) (d : TypeDesc) (hc : ∀ j x, cs[j]? = some x → w.cell? ⟨g, j, none⟩ = some x)
    (hu : P.underlying ty = some d) (hd : (match d with | .struct _ | .array _ _ => true | _ => false) = true) (hi : (P.info? ty).map (·.size) = some cs.length) :
    (loadVar ty ⟨g, 0, none⟩).run P w = .ok (.agg cs.toArray) w := by
  have hl : (loadCells ⟨g, 0, none⟩ cs.length).run P w = .ok cs.toArray w :=
    run_loadCells_list (P := P) w ⟨g, 0, none⟩ cs (fun j v hv => by
      have hadd : (⟨g, 0, none⟩ : Addr).add j = ⟨g, j, none⟩ := by unfold Addr.add; split <;> simp_all
      rw [hadd]; exact hc j v hv)
  cases hq : P.info? ty with
  | none => simp [hq] at hi
  | some i =>
    have hs : i.size = cs.length := by simpa [hq] using hi
    have hagg : (isAgg ty).run P w = .ok true w := by
      unfold isAgg
      rw [Sem.run_bind, run_underlying hu w]
      cases d <;> simp_all
    simp [loadVar, Sem.run_bind, hagg, sizeOf, typeInfo, hq, hs, hl]

theorem results_box2 {P : Program} {fn : Func} {p u : Tmp} {ty : TypeId} (h : fn.results = #[.cell p ty, .tmp u]) (tmps : Array Value) (w : World) (g : Nat) (cs : List Value) (d : TypeDesc)
    (hp : tmps.getD p undef = .pointer (some ⟨g, 0, none⟩)) (hc : ∀ j x, cs[j]? = some x → w.cell? ⟨g, j, none⟩ = some x)
    (hu : P.underlying ty = some d) (hd : (match d with | .struct _ | .array _ _ => true | _ => false) = true) (hi : (P.info? ty).map (·.size) = some cs.length) :
    (results fn tmps).run P w = .ok (.tuple #[.agg cs.toArray, tmps.getD u undef]) w := by
  have hp' : tmps[p]?.getD undef = .pointer (some ⟨g, 0, none⟩) := by simpa using hp
  simp [results, h, hp', asAddr, run_loadVar_cells w g ty cs d hc hu hd hi]

theorem results_box1 {P : Program} {fn : Func} {p : Tmp} {ty : TypeId} (h : fn.results = #[.cell p ty]) (tmps : Array Value) (w : World) (g : Nat) (cs : List Value) (d : TypeDesc)
    (hp : tmps.getD p undef = .pointer (some ⟨g, 0, none⟩)) (hc : ∀ j x, cs[j]? = some x → w.cell? ⟨g, j, none⟩ = some x)
    (hu : P.underlying ty = some d) (hd : (match d with | .struct _ | .array _ _ => true | _ => false) = true) (hi : (P.info? ty).map (·.size) = some cs.length) :
    (results fn tmps).run P w = .ok (.agg cs.toArray) w := by
  have hp' : tmps[p]?.getD undef = .pointer (some ⟨g, 0, none⟩) := by simpa using hp
  simp [results, h, hp', asAddr, run_loadVar_cells w g ty cs d hc hu hd hi]

/-- Cells that were set one by one read as they were set. -/
theorem chain_cells (w : World) (g : Nat) (vs : List Value) (h : ∀ j, j < vs.length → (w.cell? ⟨g, j, none⟩).isSome = true) (j : Nat) (y : Value) (hj : vs[j]? = some y) : (w.setCells g 0 vs).cell? ⟨g, j, none⟩ = some y := by
  have hl := (List.getElem?_eq_some_iff.1 hj).1
  have := World.cell?_setCells_in g vs 0 w (fun j hj => by rw [Nat.zero_add]; exact h j hj) j hl
  rw [Nat.zero_add] at this
  rw [this, ← hj, List.getElem?_eq_getElem hl]
theorem Below.setCells {B : Nat} {a : World} {g : Nat} (hg : B ≤ g) : ∀ (vs : List Value) (o : Nat) (w : World), Below B a w → Below B a (w.setCells g o vs)
  | [], _, _, h => h
  | v :: r, o, _, h => Below.setCells hg r (o + 1) _ (h.setCell (p := ⟨g, o, none⟩) hg v)

theorem size64 : (Try.prog.info? 64).map (·.size) = some 16 := by kernel_rfl

def PollD.zero : PollD := ⟨0, 0, ⟨0, 0, 0, 0, [], [], 0, [], []⟩, [], [], 0, 0, 0⟩
abbrev pollZero : List Value := [.int .u32 0, .int .u32 0, .int .i64 0, .int .i64 0, .int .i64 0, .int .i64 0, .slice none 0 0, .slice none 0 0, .int .i64 0, .slice none 0 0, .slice none 0 0, .slice none 0 0, .slice none 0 0, .int .i64 0, .int .i64 0, .int .i64 0]
theorem Row.empty {α : Type} (w : World) (k : Nat) (R : List Value → α → Prop) : Row w k R (.slice none 0 0) [] := ⟨none, 0, 0, rfl, fun _ => rfl, rfl, Nat.le_refl _, Nat.zero_le _, fun i x hx => by simp at hx⟩
theorem rPoll_zero (w : World) : rPoll w pollZero PollD.zero := by
  exact
  ⟨[_, _, _, _, _, _, _, _, _], _, _, rfl, ⟨by decide, by decide⟩, ⟨by decide, by decide⟩, ⟨by decide, by decide⟩, ⟨by decide, by decide⟩, ⟨by decide, by decide⟩,
    ⟨_, _, _, _, rfl, ⟨by decide, by decide⟩, ⟨by decide, by decide⟩, ⟨by decide, by decide⟩, ⟨by decide, by decide⟩, ⟨by decide, by decide⟩, Row.empty .., Row.empty .., Row.empty .., Row.empty ..⟩, Row.empty .., Row.empty ..⟩

/-- What Find answers. -/
def Found (xs : List PollD) (id : Int) (f : Bool) (y : PollD) : Prop := (f = true ∧ ∃ i : Nat, xs[i]? = some y ∧ y.id = id) ∨ (f = false ∧ y = PollD.zero ∧ ∀ (i : Nat) p, xs[i]? = some p → p.id ≠ id)

set_option maxHeartbeats 2000000 in
set_option maxRecDepth 100000 in
theorem find_at (cs : List Value) (x : StateD) (id : Int) (w0 w : World) (hb0 : Below w0.heap.size w0 w) (h0 : rState w0 cs x) (hr : rises (·.id) x.polls) (hn : x.polls.length ≤ 100) :
    Calls Try.prog 20 #[.agg cs.toArray, .int .u32 id] w fun e w' => ∃ cs' f y, e = .returned (.tuple #[.agg (Array.mk cs'), .bool f]) ∧ Found x.polls id f y ∧ rPoll w0 cs' y ∧ Below w.heap.size w w' := by
  have h := h0.later hb0
  have SW := Lib.hid h
  obtain ⟨u, p, d, rfl, _, hu, hp0, hd⟩ := h0
  have hp := hp0.later hb0 fun _ _ a => a
  clear h hp0 hb0
  obtain ⟨o1, n1, c1, rfl, _⟩ := hu
  obtain ⟨o2, n2, c2, rfl, l2, _, _, R2⟩ := hp.open
  obtain ⟨o3, n3, c3, rfl, _⟩ := hd
  have HB := Lib.hid (show Below w.heap.size w ((w.alloc (.cells #[.int .i64 x.clock, .slice o1 n1 c1, .slice o2 n2 c2, .slice o3 n3 c3] 26)).alloc (.cells pollZero.toArray 64)) from ((Below.refl _ _).alloc (Nat.le_refl _) _).alloc (by simp) _)
  have S2 := Lib.hid R2; have HR := Lib.hid hr; have L2 := Lib.hid l2
  have C := Lib.hid (fun (W : World) (hb : Below w.heap.size w W) => place_any _ x id W (SW.out.later hb) HR.out hn)
  clear hp hr R2 l2
  go_enter Try.func20, Try.ntmps20
  go_wp2_with fail
  (with_reducible refine (C.out _ HB.out).mono ?_)
  rintro e w1 ⟨i, f, rfl, hpl, hb1⟩
  have kA1 : ∀ j, World.cell? w1 ⟨w.heap.size, j, none⟩ = World.cell? (w.alloc (.cells #[.int .i64 x.clock, .slice o1 n1 c1, .slice o2 n2 c2, .slice o3 n3 c3] 26)) ⟨w.heap.size, j, none⟩ := fun j => (hb1.cell (by simp; omega)).trans (World.cell?_alloc_lt _ _ _ (by simp))
  have kB1 : ∀ j, World.cell? w1 ⟨w.heap.size + 1, j, none⟩ = World.cell? ((w.alloc (.cells #[.int .i64 x.clock, .slice o1 n1 c1, .slice o2 n2 c2, .slice o3 n3 c3] 26)).alloc (.cells pollZero.toArray 64)) ⟨w.heap.size + 1, j, none⟩ := fun j => hb1.cell (by simp)
  have zB1 : ∀ j, World.frozen? w1 ⟨w.heap.size + 1, j, none⟩ = false := fun j => (hb1.frozen (by simp)).trans (frozen_of_row _ _ _ _ _ (heap_alloc2_new w _ _))
  have KB := Lib.hid (show ∀ j, j < 16 → (World.cell? w1 ⟨w.heap.size + 1, j, none⟩).isSome = true from fun j hj => by
    rw [kB1, cell_of_row _ _ _ _ _ _ (heap_alloc2_new w _ _), Array.getElem?_eq_getElem hj]; rfl)
  have HB2 := Lib.hid (below_call HB.out hb1)
  have HP := Lib.hid hpl
  clear hb1 hpl
  cases f with
  | false =>
    go_wp2_with fail
    (try simp only [Exit.inBlock, Exit.then])
    refine bodyPost_ret (results_box2 rfl _ _ _ pollZero _ rfl (fun j y hj => chain_cells w1 _ pollZero KB.out j y hj) Try.underlying64 rfl size64) rfl ?_
    refine ⟨pollZero, false, _, rfl, .inr ⟨rfl, rfl, fun t p hp e => ?_⟩, rPoll_zero _, Below.setCells (by simp) pollZero 0 w1 HB2.out⟩
    have h1 := HP.out
    by_cases ht : t < i
    · have := h1.lt t p ht hp; omega
    · have hq : x.polls[i]? = some (x.polls[i]'(by have := (List.getElem?_eq_some_iff.1 hp).1; omega)) := List.getElem?_eq_getElem _
      have h2 := h1.ge i _ (Nat.le_refl _) hq
      have h3 := rises_le HR.out (Nat.le_of_not_lt ht) hq hp
      refine absurd h1.is.symm (by rw [dec_t ⟨_, hq, by omega⟩]; decide)
  | true =>
    obtain ⟨y, hy, hyid⟩ := dec_iff.1 (HP.out.is.symm)
    have hin : i < n2 := by have := (List.getElem?_eq_some_iff.1 hy).1; have := L2.out; omega
    have hin' : (i : Int) < (n2 : Int) := by omega
    obtain ⟨y', a1, cs1, hx, rfl, q1, q3, q0, q2⟩ := S2.out.elem HB2.out i hin
    rw [hy] at hx
    cases hx
    have SR := Lib.hid q3
    obtain ⟨qq, qs, qv, rfl, _, _, _, _, _, ⟨qm, qy, qa, qp, rfl, _, _, _, _, _, ⟨om, nm, cm, rfl, _⟩, ⟨oy, ny, cy, rfl, _⟩, ⟨oa, na, ca, rfl, _⟩, ⟨op, np, cp, rfl, _⟩⟩, ⟨os, ns', cs', rfl, _⟩, ⟨ov, nv, cv, rfl, _⟩⟩ := q3
    simp only [List.cons_append, List.nil_append] at q0 q2 SR
    have e0 := q0 (by decide)
    have e1 := q2 1 (by decide) (by decide)
    have e2 := q2 2 (by decide) (by decide)
    have e3 := q2 3 (by decide) (by decide)
    have e4 := q2 4 (by decide) (by decide)
    have e5 := q2 5 (by decide) (by decide)
    have e6 := q2 6 (by decide) (by decide)
    have e7 := q2 7 (by decide) (by decide)
    have e8 := q2 8 (by decide) (by decide)
    have e9 := q2 9 (by decide) (by decide)
    have e10 := q2 10 (by decide) (by decide)
    have e11 := q2 11 (by decide) (by decide)
    have e12 := q2 12 (by decide) (by decide)
    have e13 := q2 13 (by decide) (by decide)
    have e14 := q2 14 (by decide) (by decide)
    have e15 := q2 15 (by decide) (by decide)
    simp only [List.getElem?_cons_zero, List.getElem?_cons_succ] at e0 e1 e2 e3 e4 e5 e6 e7 e8 e9 e10 e11 e12 e13 e14 e15
    have HCC := Lib.hid (chain_cells w1 (w.heap.size + 1) [.int .u32 y.id, .int .u32 y.owner, .int .i64 y.query.from_, .int .i64 y.query.to_, .int .i64 y.query.long, .int .i64 y.query.grid, .slice om nm cm, .slice oy ny cy, .int .i64 y.query.seats, .slice oa na ca, .slice op np cp, .slice os ns' cs', .slice ov nv cv, .int .i64 y.until_, .int .i64 y.state, .int .i64 y.winner] KB.out)
    have HBB := Lib.hid (Below.setCells (show w.heap.size ≤ w.heap.size + 1 by omega) [.int .u32 y.id, .int .u32 y.owner, .int .i64 y.query.from_, .int .i64 y.query.to_, .int .i64 y.query.long, .int .i64 y.query.grid, .slice om nm cm, .slice oy ny cy, .int .i64 y.query.seats, .slice oa na ca, .slice op np cp, .slice os ns' cs', .slice ov nv cv, .int .i64 y.until_, .int .i64 y.state, .int .i64 y.winner] 0 w1 HB2.out)
    have Hy := Lib.hid hy; have HI := Lib.hid hyid
    clear q0 q1 q2 hy hyid
    go_wp2_with fail
    (try simp only [Exit.inBlock, Exit.then])
    refine bodyPost_ret (results_box2 rfl _ _ _ [.int .u32 y.id, .int .u32 y.owner, .int .i64 y.query.from_, .int .i64 y.query.to_, .int .i64 y.query.long, .int .i64 y.query.grid, .slice om nm cm, .slice oy ny cy, .int .i64 y.query.seats, .slice oa na ca, .slice op np cp, .slice os ns' cs', .slice ov nv cv, .int .i64 y.until_, .int .i64 y.state, .int .i64 y.winner] _ rfl (fun j z hj => HCC.out j z hj) Try.underlying64 rfl size64) rfl ?_
    exact ⟨_, true, y, rfl, .inl ⟨rfl, i, Hy.out, HI.out⟩, SR.out, HBB.out⟩
end Go.Proofs.Ytcleicjgeflbnaa
