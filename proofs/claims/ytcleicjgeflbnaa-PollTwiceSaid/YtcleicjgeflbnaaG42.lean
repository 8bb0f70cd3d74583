/- The walk of the reference's Find of layer 24: a poll by its number, looked for one by one. No condition but that the argument reads. -/
import Derived.Test.YtcleicjgeflbnaaG21
namespace Go.Proofs.Ytcleicjgeflbnaa
open Go.RowKit Go.ChangeShapes Go.WideShapes Go.Deep

set_option maxHeartbeats 4000000 in
set_option maxRecDepth 100000 in
theorem refFind_at (cs : List Value) (x : StateD) (id : Int) (w0 w : World) (hb0 : Below w0.heap.size w0 w) (h0 : rState w0 cs x) :
    Calls Try.prog 10 #[.agg cs.toArray, .int .u32 id] w fun e w' => ∃ cs' f y, e = .returned (.tuple #[.agg (Array.mk cs'), .bool f]) ∧ Found x.polls id f y ∧ rPoll w0 cs' y ∧ Below w.heap.size w w' := by
  obtain ⟨u, vp, d, rfl, _, ⟨o1, n1, c1, rfl, _⟩, hp0, ⟨o3, n3, c3, rfl, _⟩⟩ := h0
  have hp := hp0.later hb0 fun _ _ a => a
  obtain ⟨o2, n2, c2, rfl, l2, _, k2, R2⟩ := hp.open
  have hM : n2 < 9223372036854775808 := by (unfold maxLen at k2; omega)
  have HB := Lib.hid (show Below w.heap.size w ((w.alloc (.cells #[.int .i64 x.clock, .slice o1 n1 c1, .slice o2 n2 c2, .slice o3 n3 c3] 26)).alloc (.cells pollZero.toArray 64)) from ((Below.refl _ _).alloc (Nat.le_refl _) _).alloc (by simp) _)
  have S2 := Lib.hid R2; have L2 := Lib.hid l2
  clear hp R2 l2 hp0 k2
  go_enter Try.func10, Try.ntmps10
  go_wp2_with fail
  go_loopw [10] (fun b wr => ∃ k : Nat, k ≤ n2 ∧ b = .int .i64 k ∧ wr = ((w.alloc (.cells #[.int .i64 x.clock, .slice o1 n1 c1, .slice o2 n2 c2, .slice o3 n3 c3] 26)).alloc (.cells pollZero.toArray 64)) ∧ Hid (∀ (i : Nat) p, i < k → x.polls[i]? = some p → p.id ≠ id)) (fun b _ => n2 - (intOf b).toNat)
  case atStart => exact ⟨0, Nat.zero_le _, rfl, rfl, fun i p hi => absurd hi (Nat.not_lt_zero _)⟩
  case round =>
    obtain ⟨k, hk, rfl, rfl, I⟩ := hrel
    by_cases hlt : k < n2
    · have hlt' : (k : Int) < (n2 : Int) := by omega
      obtain ⟨y, a1, cs1, hx, rfl, q1, q3, q0, q2⟩ := S2.out.elem HB.out k hlt
      have SR := Lib.hid q3
      obtain ⟨qq, qs, qv, rfl, _, _, _, _, _, ⟨qm, qy, qa, qp, rfl, _, _, _, _, _, ⟨om, nm, cm, rfl, _⟩, ⟨oy, ny, cy, rfl, _⟩, ⟨oa, na, ca, rfl, _⟩, ⟨op, np, cp, rfl, _⟩⟩, ⟨os, ns', cs', rfl, _⟩, ⟨ov, nv, cv, rfl, _⟩⟩ := q3
      simp only [List.cons_append, List.nil_append] at q0 q2 SR
      have e0 := q0 (by decide)
      have e1 := q2 1 (by decide) (by decide)
      have e2 := q2 2 (by decide) (by decide)
      have e3 := q2 3 (by decide) (by decide)
      have e4 := q2 4 (by decide) (by decide)
      have e5 := q2 5 (by decide) (by decide)
      have e6 := q2 6 (by decide) (by decide)
      have e7 := q2 7 (by decide) (by decide)
      have e8 := q2 8 (by decide) (by decide)
      have e9 := q2 9 (by decide) (by decide)
      have e10 := q2 10 (by decide) (by decide)
      have e11 := q2 11 (by decide) (by decide)
      have e12 := q2 12 (by decide) (by decide)
      have e13 := q2 13 (by decide) (by decide)
      have e14 := q2 14 (by decide) (by decide)
      have e15 := q2 15 (by decide) (by decide)
      simp only [List.getElem?_cons_zero, List.getElem?_cons_succ] at e0 e1 e2 e3 e4 e5 e6 e7 e8 e9 e10 e11 e12 e13 e14 e15
      have Hx := Lib.hid hx
      clear q0 q1 q2 hx
      by_cases hy : y.id = id
      · have HY := Lib.hid hy
        rw [hy] at e0 SR
        clear hy
        go_wp2_with fail
        (try simp only [Exit.inBlock, Exit.then])
        refine bodyPost_ret (results_box2 rfl _ _ _ [.int .u32 id, .int .u32 y.owner, .int .i64 y.query.from_, .int .i64 y.query.to_, .int .i64 y.query.long, .int .i64 y.query.grid, .slice om nm cm, .slice oy ny cy, .int .i64 y.query.seats, .slice oa na ca, .slice op np cp, .slice os ns' cs', .slice ov nv cv, .int .i64 y.until_, .int .i64 y.state, .int .i64 y.winner] _ rfl (fun j z hj => (cell_of_row _ _ _ _ _ _ (heap_alloc2_new w _ _)).trans (by simpa using hj)) Try.underlying64 rfl size64) rfl ?_
        exact ⟨_, true, y, rfl, .inl ⟨rfl, k, Hx.out, HY.out⟩, SR.out, ((Below.refl _ _).alloc (Nat.le_refl _) _).alloc (by simp) _⟩
      · have b1 : (y.id == id) = false := by simpa using hy
        have I2 := Lib.hid (show ∀ (i : Nat) z, i < k + 1 → x.polls[i]? = some z → z.id ≠ id from fun i z hi hz => by
          by_cases e : i = k
          · subst e; rw [Hx.out] at hz; cases hz; exact hy
          · exact I.out i z (by omega) hz)
        clear hy
        go_wp2_with fail
        go_roundw
        case measure => simp [intOf]; omega
        case rel => exact ⟨k + 1, by omega, by go_num, by trivial, I2.out⟩
    · obtain rfl : n2 = k := by omega
      go_wp2_with fail
      (try simp only [Exit.inBlock, Exit.then])
      refine bodyPost_ret (results_box2 rfl _ _ _ pollZero _ rfl (fun j z hj => (cell_of_row _ _ _ _ _ _ (heap_alloc2_new w _ _)).trans (by simpa using hj)) Try.underlying64 rfl size64) rfl ?_
      exact ⟨pollZero, false, _, rfl, .inr ⟨rfl, rfl, fun i p hp => I.out i p (by have := (List.getElem?_eq_some_iff.1 hp).1; have := L2.out; omega) hp⟩, rPoll_zero _, ((Below.refl _ _).alloc (Nat.le_refl _) _).alloc (by simp) _⟩
end Go.Proofs.Ytcleicjgeflbnaa
