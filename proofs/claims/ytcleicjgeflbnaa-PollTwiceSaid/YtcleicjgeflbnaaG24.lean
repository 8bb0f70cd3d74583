/- The walk of own: a poll of the caller's, in a state. Conditions: the polls' numbers rise, and there are at most a hundred. -/
import Derived.Test.YtcleicjgeflbnaaG23
namespace Go.Proofs.Ytcleicjgeflbnaa
open Go.RowKit Go.ChangeShapes Go.WideShapes Go.Deep

theorem Found.is {xs : List PollD} {id : Int} {f : Bool} {z y : PollD} {i : Nat} (h : Found xs id f z) (hr : rises (·.id) xs) (hi : xs[i]? = some y) (e : y.id = id) : f = true ∧ z = y := by
  rcases h with ⟨rfl, j, hj, ez⟩ | ⟨_, _, h⟩
  · refine ⟨rfl, ?_⟩
    rcases Nat.lt_trichotomy i j with hl | rfl | hl
    · have := rises_lt hr (j - i - 1) i y z hi (by rw [show i + (j - i - 1) + 1 = j by omega]; exact hj)
      omega
    · rw [hi] at hj; cases hj; rfl
    · have := rises_lt hr (i - j - 1) j z y hj (by rw [show j + (i - j - 1) + 1 = i by omega]; exact hi)
      omega
  · exact absurd e (h i y hi)

/-- What a question's cells are, as far as polls look. -/
structure AskA (A : Array Value) (a : AskD) : Prop where
  size : A.size = 42
  a1 : ∀ h : 1 < A.size, A[1]'h = .int .u32 a.caller
  a38 : ∀ h : 38 < A.size, A[38]'h = .int .u32 a.poll
  a39 : ∀ h : 39 < A.size, A[39]'h = .int .i64 a.slot

set_option maxHeartbeats 8000000 in
set_option maxRecDepth 100000 in
theorem own_ok (cs : List Value) (A : Array Value) (x : StateD) (a : AskD) (st : Int) (w0 w : World) (hb0 : Below w0.heap.size w0 w) (h0 : rState w0 cs x) (ha : AskA A a) (hr : rises (·.id) x.polls) (hn : x.polls.length ≤ 100) (i : Nat) (y : PollD) (hi : x.polls[i]? = some y) (hid : y.id = a.poll) (ho : y.owner = a.caller) (hs : y.state = st) :
    Calls Try.prog 36 #[.agg cs.toArray, .agg A, .int .i64 st] w fun e w' => ∃ cs', e = .returned (.tuple #[.agg (Array.mk cs'), .int .i64 0]) ∧ rPoll w0 cs' y ∧ Below w.heap.size w w' := by
  have h := h0.later hb0
  have SW := Lib.hid h0
  have HOe := Lib.hid ho; have HSe := Lib.hid hs; have HI := Lib.hid hi; have HID := Lib.hid hid
  clear ho hs hi hid
  have HB0 := Lib.hid hb0
  have HR := Lib.hid hr
  obtain ⟨u, vp, d, rfl, _, ⟨o1, n1, c1, rfl, _⟩, ⟨o2, n2, c2, rfl, _⟩, ⟨o3, n3, c3, rfl, _⟩⟩ := h
  obtain ⟨hs, a1, a38, _⟩ := ha
  have HB := Lib.hid (show Below w.heap.size w (((w.alloc (.cells #[.int .i64 x.clock, .slice o1 n1 c1, .slice o2 n2 c2, .slice o3 n3 c3] 26)).alloc (.cells A 54)).alloc (.cells pollZero.toArray 64)) from (((Below.refl _ _).alloc (Nat.le_refl _) _).alloc (by simp) _).alloc (by simp; omega) _)
  have C := Lib.hid (fun (W : World) (hb : Below w.heap.size w W) => (find_at _ x a.poll w0 W (HB0.out.trans (hb.mono HB0.out.size)) SW.out HR.out hn))
  clear hr h0 hb0
  go_enter Try.func36, Try.ntmps36
  go_wp2_with fail
  (with_reducible refine (C.out _ HB.out).mono ?_)
  rintro e w1 ⟨cs0, f, z, he, hf, hy, hb1⟩
  rw [show Array.mk cs0 = cs0.toArray from rfl] at he
  obtain ⟨rfl, rfl⟩ := hf.is HR.out HI.out HID.out
  have SR := Lib.hid hy
  obtain ⟨qq, qs, qv, rfl, _, _, _, _, _, ⟨qm, qy, qa, qp, rfl, _, _, _, _, _, ⟨om, nm, cm, rfl, _⟩, ⟨oy, ny, cy, rfl, _⟩, ⟨oa, na, ca, rfl, _⟩, ⟨op, np, cp, rfl, _⟩⟩, ⟨os, ns', cs', rfl, _⟩, ⟨ov, nv, cv, rfl, _⟩⟩ := hy
  simp only [List.cons_append, List.nil_append] at SR he
  have kB1 : ∀ j, World.cell? w1 ⟨w.heap.size + 1, j, none⟩ = World.cell? ((w.alloc (.cells #[.int .i64 x.clock, .slice o1 n1 c1, .slice o2 n2 c2, .slice o3 n3 c3] 26)).alloc (.cells A 54)) ⟨w.heap.size + 1, j, none⟩ := fun j => (hb1.cell (by simp)).trans (World.cell?_alloc_lt _ _ _ (by simp))
  have kC1 : ∀ j, World.cell? w1 ⟨w.heap.size + 1 + 1, j, none⟩ = World.cell? (((w.alloc (.cells #[.int .i64 x.clock, .slice o1 n1 c1, .slice o2 n2 c2, .slice o3 n3 c3] 26)).alloc (.cells A 54)).alloc (.cells pollZero.toArray 64)) ⟨w.heap.size + 1 + 1, j, none⟩ := fun j => hb1.cell (by simp)
  have zC1 : ∀ j, World.frozen? w1 ⟨w.heap.size + 1 + 1, j, none⟩ = false := fun j => (hb1.frozen (by simp)).trans (frozen_of_row _ _ _ _ _ (heap_alloc3_new w _ _ _))
  have hz0 : w.heap.size + 1 < w1.heap.size := Nat.lt_of_lt_of_le (by simp) hb1.size
  have hz1 : w.heap.size + 1 + 1 < w1.heap.size := Nat.lt_of_lt_of_le (by simp) hb1.size
  have KB := Lib.hid (show ∀ j, j < 16 → (World.cell? w1 ⟨w.heap.size + 1 + 1, j, none⟩).isSome = true from fun j hj => by
    rw [kC1, cell_of_row _ _ _ _ _ _ (heap_alloc3_new w _ _ _), Array.getElem?_eq_getElem hj]; rfl)
  have HB2 := Lib.hid (below_call HB.out hb1)
  rw [HOe.out, HSe.out] at SR he
  subst he
  have HCC := Lib.hid (chain_cells w1 (w.heap.size + 1 + 1) [.int .u32 z.id, .int .u32 a.caller, .int .i64 z.query.from_, .int .i64 z.query.to_, .int .i64 z.query.long, .int .i64 z.query.grid, .slice om nm cm, .slice oy ny cy, .int .i64 z.query.seats, .slice oa na ca, .slice op np cp, .slice os ns' cs', .slice ov nv cv, .int .i64 z.until_, .int .i64 st, .int .i64 z.winner] KB.out)
  have HBB := Lib.hid (Below.setCells (show w.heap.size ≤ w.heap.size + 1 + 1 by omega) [.int .u32 z.id, .int .u32 a.caller, .int .i64 z.query.from_, .int .i64 z.query.to_, .int .i64 z.query.long, .int .i64 z.query.grid, .slice om nm cm, .slice oy ny cy, .int .i64 z.query.seats, .slice oa na ca, .slice op np cp, .slice os ns' cs', .slice ov nv cv, .int .i64 z.until_, .int .i64 st, .int .i64 z.winner] 0 w1 HB2.out)
  go_wp2_with fail
  (try simp only [Exit.inBlock, Exit.then])
  refine bodyPost_ret (results_box2 rfl _ _ _ [.int .u32 z.id, .int .u32 a.caller, .int .i64 z.query.from_, .int .i64 z.query.to_, .int .i64 z.query.long, .int .i64 z.query.grid, .slice om nm cm, .slice oy ny cy, .int .i64 z.query.seats, .slice oa na ca, .slice op np cp, .slice os ns' cs', .slice ov nv cv, .int .i64 z.until_, .int .i64 st, .int .i64 z.winner] _ rfl (fun j z hj => (World.cell?_alloc_lt _ _ _ (by simpa using hz1)).trans (HCC.out j z hj)) Try.underlying64 rfl size64) rfl ?_
  exact ⟨_, by rfl, SR.out, (HBB.out).alloc (by have := HBB.out.size; omega) _⟩
end Go.Proofs.Ytcleicjgeflbnaa
