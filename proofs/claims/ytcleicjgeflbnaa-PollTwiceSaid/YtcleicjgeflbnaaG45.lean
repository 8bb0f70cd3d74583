/- The walk of Vote where the poll does not ask the caller. Conditions: the polls' numbers rise, there are at most a hundred, its query names at most a hundred users of each kind. -/
import Derived.Test.YtcleicjgeflbnaaG25
import Derived.Test.YtcleicjgeflbnaaG37
namespace Go.Proofs.Ytcleicjgeflbnaa
open Go.RowKit Go.ChangeShapes Go.WideShapes Go.Deep

set_option maxHeartbeats 4000000 in
set_option maxRecDepth 100000 in
theorem vote_notasked (cs : List Value) (A : Array Value) (x : StateD) (a : AskD) (w : World) (h : rState w cs x) (ha : AskA A a) (hr : rises (·.id) x.polls) (hn : x.polls.length ≤ 100) (i : Nat) (y : PollD) (hi : x.polls[i]? = some y) (hid : y.id = a.poll) (q1 : y.query.must.length ≤ 100) (q2 : y.query.may.length ≤ 100) (hno : ¬ a.caller ∈ y.query.users) :
    Calls Try.prog 9 #[.agg cs.toArray, .agg A] w fun e w' => e = .returned (.tuple #[.agg cs.toArray, .int .u64 0, .int .i64 5]) ∧ Below w.heap.size w w' := by
  have SW := Lib.hid h
  have HR := Lib.hid hr
  have HN := Lib.hid hno; have HI := Lib.hid hi; have HID := Lib.hid hid; have HQ := Lib.hid (And.intro q1 q2)
  obtain ⟨hsz, a1, a38, a39⟩ := ha
  clear hr hno hi hid q1 q2
  obtain ⟨u, vp, d, rfl, _, ⟨o1, n1, c1, rfl, _⟩, ⟨o2, n2, c2, rfl, _⟩, ⟨o3, n3, c3, rfl, _⟩⟩ := h
  have HB := Lib.hid (show Below w.heap.size w (((w.alloc (.cells #[.int .i64 x.clock, .slice o1 n1 c1, .slice o2 n2 c2, .slice o3 n3 c3] 26)).alloc (.cells A 54)).alloc (.cells #[.int .i64 0, .slice none 0 0, .slice none 0 0, .slice none 0 0] 26)) from (((Below.refl _ _).alloc (Nat.le_refl _) _).alloc (by simp) _).alloc (by simp; omega) _)
  have C := Lib.hid (fun (W : World) (hb : Below w.heap.size w W) => find_at _ x a.poll w W hb SW.out HR.out hn)
  go_enter Try.func9, Try.ntmps9
  go_wp2_with fail
  (with_reducible refine (C.out _ HB.out).mono ?_)
  rintro e w1 ⟨cs0, f, z, he, hf, hy, hb1⟩
  obtain ⟨rfl, rfl⟩ := hf.is HR.out HI.out HID.out
  clear hf
  rw [show Array.mk cs0 = cs0.toArray from rfl] at he
  have SR := Lib.hid hy
  obtain ⟨qq, qs, qv, rfl, _, _, _, _, _, ⟨qm, qy, qa, qp, rfl, _, _, _, _, _, ⟨om, nm, cm, rfl, _⟩, ⟨oy, ny, cy, rfl, _⟩, ⟨oa, na, ca, rfl, _⟩, ⟨op, np, cp, rfl, _⟩⟩, ⟨os, ns', cs', rfl, _⟩, ⟨ov, nv, cv, rfl, _⟩⟩ := hy
  simp only [List.cons_append, List.nil_append] at he SR
  subst he
  have kA1 : ∀ j, World.cell? w1 ⟨w.heap.size, j, none⟩ = World.cell? (w.alloc (.cells #[.int .i64 x.clock, .slice o1 n1 c1, .slice o2 n2 c2, .slice o3 n3 c3] 26)) ⟨w.heap.size, j, none⟩ := fun j => (hb1.cell (by simp; omega)).trans ((World.cell?_alloc_lt _ _ _ (by simp; omega)).trans (World.cell?_alloc_lt _ _ _ (by simp)))
  have kC1 : ∀ j, World.cell? w1 ⟨w.heap.size + 1 + 1, j, none⟩ = World.cell? (((w.alloc (.cells #[.int .i64 x.clock, .slice o1 n1 c1, .slice o2 n2 c2, .slice o3 n3 c3] 26)).alloc (.cells A 54)).alloc (.cells #[.int .i64 0, .slice none 0 0, .slice none 0 0, .slice none 0 0] 26)) ⟨w.heap.size + 1 + 1, j, none⟩ := fun j => hb1.cell (by simp)
  have zC1 : ∀ j, World.frozen? w1 ⟨w.heap.size + 1 + 1, j, none⟩ = false := fun j => (hb1.frozen (by simp)).trans (frozen_of_row _ _ _ _ _ (heap_alloc3_new w _ _ _))
  have kB1 : ∀ j, World.cell? w1 ⟨w.heap.size + 1, j, none⟩ = World.cell? ((w.alloc (.cells #[.int .i64 x.clock, .slice o1 n1 c1, .slice o2 n2 c2, .slice o3 n3 c3] 26)).alloc (.cells A 54)) ⟨w.heap.size + 1, j, none⟩ := fun j => (hb1.cell (by simp)).trans (World.cell?_alloc_lt _ _ _ (by simp))
  have hzB : w.heap.size + 1 < w1.heap.size := Nat.lt_of_lt_of_le (by simp) hb1.size
  have hz0 : w.heap.size < w1.heap.size := Nat.lt_of_lt_of_le (by simp; omega) hb1.size
  have hz1 : w.heap.size + 1 + 1 < w1.heap.size := Nat.lt_of_lt_of_le (by simp) hb1.size
  have D := Lib.hid (fun (W : World) (hb : Below w.heap.size w W) => c_f (asks_any _ z a.caller W (SR.out.later hb) HQ.out.1 HQ.out.2) HN.out)
  have KB := Lib.hid (show ∀ j, j < 4 → (World.cell? w1 ⟨w.heap.size + 1 + 1, j, none⟩).isSome = true from fun j hj => by
    rw [kC1, cell_of_row _ _ _ _ _ _ (heap_alloc3_new w _ _ _), Array.getElem?_eq_getElem hj]; rfl)
  have HB2 := Lib.hid (below_call HB.out hb1)
  have HB2' := Lib.hid (HB2.out.alloc HB2.out.size (.cells #[.int .u32 z.id, .int .u32 z.owner, .int .i64 z.query.from_, .int .i64 z.query.to_, .int .i64 z.query.long, .int .i64 z.query.grid, .slice om nm cm, .slice oy ny cy, .int .i64 z.query.seats, .slice oa na ca, .slice op np cp, .slice os ns' cs', .slice ov nv cv, .int .i64 z.until_, .int .i64 z.state, .int .i64 z.winner] 64))
  clear hb1
  go_wp2_with fail
  (with_reducible refine (D.out _ HB2'.out).mono ?_)
  rintro e w2 ⟨rfl, hb2⟩
  have kA2 : ∀ j, World.cell? w2 ⟨w.heap.size, j, none⟩ = World.cell? (w.alloc (.cells #[.int .i64 x.clock, .slice o1 n1 c1, .slice o2 n2 c2, .slice o3 n3 c3] 26)) ⟨w.heap.size, j, none⟩ := fun j => (hb2.cell (by simp; omega)).trans ((World.cell?_alloc_lt _ _ _ hz0).trans (kA1 j))
  have kC2 : ∀ j, World.cell? w2 ⟨w.heap.size + 1 + 1, j, none⟩ = World.cell? (((w.alloc (.cells #[.int .i64 x.clock, .slice o1 n1 c1, .slice o2 n2 c2, .slice o3 n3 c3] 26)).alloc (.cells A 54)).alloc (.cells #[.int .i64 0, .slice none 0 0, .slice none 0 0, .slice none 0 0] 26)) ⟨w.heap.size + 1 + 1, j, none⟩ := fun j => (hb2.cell (by simp; omega)).trans ((World.cell?_alloc_lt _ _ _ hz1).trans (kC1 j))
  have zC2 : ∀ j, World.frozen? w2 ⟨w.heap.size + 1 + 1, j, none⟩ = false := fun j => (hb2.frozen (by simp; omega)).trans ((World.frozen?_of_block (Below.heap_alloc w1 _ _ hz1)).trans (zC1 j))
  have KB2 := Lib.hid (show ∀ j, j < 4 → (World.cell? w2 ⟨w.heap.size + 1 + 1, j, none⟩).isSome = true from fun j hj => by
    rw [kC2, cell_of_row _ _ _ _ _ _ (heap_alloc3_new w _ _ _), Array.getElem?_eq_getElem hj]; rfl)
  have HB3 := Lib.hid (below_call HB2'.out hb2)
  have HCC := Lib.hid (chain_cells w2 (w.heap.size + 1 + 1) [.int .i64 x.clock, .slice o1 n1 c1, .slice o2 n2 c2, .slice o3 n3 c3] KB2.out)
  have HBB := Lib.hid (Below.setCells (show w.heap.size ≤ w.heap.size + 1 + 1 by omega) [.int .i64 x.clock, .slice o1 n1 c1, .slice o2 n2 c2, .slice o3 n3 c3] 0 w2 HB3.out)
  clear hb2 kA1 kB1 kC1 zC1
  go_wp2_with fail
  (try simp only [Exit.inBlock, Exit.then])
  refine bodyPost_ret (results_box rfl _ _ _ [.int .i64 x.clock, .slice o1 n1 c1, .slice o2 n2 c2, .slice o3 n3 c3] _ rfl (fun j z hj => HCC.out j z hj) Try.underlying26 rfl size26) rfl ?_
  exact ⟨rfl, HBB.out⟩
end Go.Proofs.Ytcleicjgeflbnaa
