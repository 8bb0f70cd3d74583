/- The walk of Vote where there is no such poll. Conditions: the polls' numbers rise, and there are at most a hundred. -/
import Derived.Test.YtcleicjgeflbnaaG25
namespace Go.Proofs.Ytcleicjgeflbnaa
open Go.RowKit Go.ChangeShapes Go.WideShapes Go.Deep

set_option maxHeartbeats 4000000 in
set_option maxRecDepth 100000 in
theorem vote_unknown (cs : List Value) (A : Array Value) (x : StateD) (a : AskD) (w : World) (h : rState w cs x) (ha : AskA A a) (hr : rises (·.id) x.polls) (hn : x.polls.length ≤ 100) (hno : ∀ (i : Nat) p, x.polls[i]? = some p → p.id ≠ a.poll) :
    Calls Try.prog 9 #[.agg cs.toArray, .agg A] w fun e w' => e = .returned (.tuple #[.agg cs.toArray, .int .u64 0, .int .i64 4]) ∧ Below w.heap.size w w' := by
  have SW := Lib.hid h
  have HR := Lib.hid hr
  have HN := Lib.hid hno
  obtain ⟨hsz, a1, a38, a39⟩ := ha
  clear hr hno
  obtain ⟨u, vp, d, rfl, _, ⟨o1, n1, c1, rfl, _⟩, ⟨o2, n2, c2, rfl, _⟩, ⟨o3, n3, c3, rfl, _⟩⟩ := h
  have HB := Lib.hid (show Below w.heap.size w (((w.alloc (.cells #[.int .i64 x.clock, .slice o1 n1 c1, .slice o2 n2 c2, .slice o3 n3 c3] 26)).alloc (.cells A 54)).alloc (.cells #[.int .i64 0, .slice none 0 0, .slice none 0 0, .slice none 0 0] 26)) from (((Below.refl _ _).alloc (Nat.le_refl _) _).alloc (by simp) _).alloc (by simp; omega) _)
  have C := Lib.hid (fun (W : World) (hb : Below w.heap.size w W) => find_at _ x a.poll w W hb SW.out HR.out hn)
  go_enter Try.func9, Try.ntmps9
  go_wp2_with fail
  (with_reducible refine (C.out _ HB.out).mono ?_)
  rintro e w1 ⟨cs0, f, y, he, hf, hy, hb1⟩
  obtain rfl : f = false := by
    rcases hf with ⟨_, i, hi, e⟩ | ⟨h, _⟩
    · exact absurd e (HN.out i y hi)
    · exact h
  clear hf
  rw [show Array.mk cs0 = cs0.toArray from rfl] at he
  obtain ⟨qq, qs, qv, rfl, _, _, _, _, _, ⟨qm, qy, qa, qp, rfl, _, _, _, _, _, ⟨om, nm, cm, rfl, _⟩, ⟨oy, ny, cy, rfl, _⟩, ⟨oa, na, ca, rfl, _⟩, ⟨op, np, cp, rfl, _⟩⟩, ⟨os, ns', cs', rfl, _⟩, ⟨ov, nv, cv, rfl, _⟩⟩ := hy
  simp only [List.cons_append, List.nil_append] at he
  subst he
  have kA1 : ∀ j, World.cell? w1 ⟨w.heap.size, j, none⟩ = World.cell? (w.alloc (.cells #[.int .i64 x.clock, .slice o1 n1 c1, .slice o2 n2 c2, .slice o3 n3 c3] 26)) ⟨w.heap.size, j, none⟩ := fun j => (hb1.cell (by simp; omega)).trans ((World.cell?_alloc_lt _ _ _ (by simp; omega)).trans (World.cell?_alloc_lt _ _ _ (by simp)))
  have kC1 : ∀ j, World.cell? w1 ⟨w.heap.size + 1 + 1, j, none⟩ = World.cell? (((w.alloc (.cells #[.int .i64 x.clock, .slice o1 n1 c1, .slice o2 n2 c2, .slice o3 n3 c3] 26)).alloc (.cells A 54)).alloc (.cells #[.int .i64 0, .slice none 0 0, .slice none 0 0, .slice none 0 0] 26)) ⟨w.heap.size + 1 + 1, j, none⟩ := fun j => hb1.cell (by simp)
  have zC1 : ∀ j, World.frozen? w1 ⟨w.heap.size + 1 + 1, j, none⟩ = false := fun j => (hb1.frozen (by simp)).trans (frozen_of_row _ _ _ _ _ (heap_alloc3_new w _ _ _))
  have hz0 : w.heap.size < w1.heap.size := Nat.lt_of_lt_of_le (by simp; omega) hb1.size
  have hz1 : w.heap.size + 1 + 1 < w1.heap.size := Nat.lt_of_lt_of_le (by simp) hb1.size
  have KB := Lib.hid (show ∀ j, j < 4 → (World.cell? w1 ⟨w.heap.size + 1 + 1, j, none⟩).isSome = true from fun j hj => by
    rw [kC1, cell_of_row _ _ _ _ _ _ (heap_alloc3_new w _ _ _), Array.getElem?_eq_getElem hj]; rfl)
  have HB2 := Lib.hid (below_call HB.out hb1)
  have HCC := Lib.hid (chain_cells w1 (w.heap.size + 1 + 1) [.int .i64 x.clock, .slice o1 n1 c1, .slice o2 n2 c2, .slice o3 n3 c3] KB.out)
  have HBB := Lib.hid (Below.setCells (show w.heap.size ≤ w.heap.size + 1 + 1 by omega) [.int .i64 x.clock, .slice o1 n1 c1, .slice o2 n2 c2, .slice o3 n3 c3] 0 w1 HB2.out)
  clear hb1
  go_wp2_with fail
  (try simp only [Exit.inBlock, Exit.then])
  refine bodyPost_ret (results_box rfl _ _ _ [.int .i64 x.clock, .slice o1 n1 c1, .slice o2 n2 c2, .slice o3 n3 c3] _ rfl (fun j z hj => (World.cell?_alloc_lt _ _ _ (by simpa using hz1)).trans (HCC.out j z hj)) Try.underlying26 rfl size26) rfl ?_
  exact ⟨rfl, HBB.out.alloc (by have := HBB.out.size; omega) _⟩
end Go.Proofs.Ytcleicjgeflbnaa
