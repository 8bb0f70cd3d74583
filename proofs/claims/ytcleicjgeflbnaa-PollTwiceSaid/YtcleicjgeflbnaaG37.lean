/- The walk of asks: does a poll ask a user? Conditions: its query names at most a hundred users of each kind. -/
import Derived.Test.YtcleicjgeflbnaaG30
namespace Go.Proofs.Ytcleicjgeflbnaa
open Go.RowKit Go.ChangeShapes Go.WideShapes Go.Deep

theorem Row.each {α : Type} {w : World} {k : Nat} {R : List Value → α → Prop} {v : Value} {xs : List α} (h : Row w k R v xs) {x : α} (hx : x ∈ xs) : ∃ cs, R cs x := by
  obtain ⟨o, n, c, _, _, _, _, _, h5⟩ := h
  obtain ⟨i, hi, rfl⟩ := List.getElem_of_mem hx
  obtain ⟨_, cs, _, _, _, hr⟩ := h5 i _ (List.getElem?_eq_getElem hi)
  exact ⟨cs, hr⟩
theorem rQuery.users_wf {w : World} {cs : List Value} {q : QueryD} (h : rQuery w cs q) : ∀ u ∈ q.users, wfi .u32 u := by
  obtain ⟨_, _, _, _, _, _, _, _, _, _, hm, hy, _, _⟩ := h
  intro u hu
  rcases List.mem_append.1 hu with hu | hu
  · obtain ⟨_, _, hw⟩ := hm.each hu; exact hw
  · obtain ⟨y, hyy, rfl⟩ := List.mem_map.1 hu
    obtain ⟨_, _, hw, _⟩ := hy.each hyy
    exact hw

set_option maxHeartbeats 4000000 in
theorem asks_any (cs : List Value) (p : PollD) (u : Int) (w : World) (h : rPoll w cs p) (h1 : p.query.must.length ≤ 100) (h2 : p.query.may.length ≤ 100) :
    Calls Try.prog 21 #[.agg cs.toArray, .int .u32 u] w fun e w' => e = .returned (.bool (dec (u ∈ p.query.users))) ∧ Below w.heap.size w w' := by
  obtain ⟨qq, qs, qv, rfl, _, _, _, _, _, hq, ⟨os, ns', cs', rfl, _⟩, ⟨ov, nv, cv, rfl, _⟩⟩ := h
  have SQ := Lib.hid hq
  obtain ⟨qm, qy, qa, qp, rfl, _, _, _, _, _, ⟨om, nm, cm, rfl, _⟩, ⟨oy, ny, cy, rfl, _⟩, ⟨oa, na, ca, rfl, _⟩, ⟨op, np, cp, rfl, _⟩⟩ := hq
  simp only [List.cons_append, List.nil_append]
  have HB := Lib.hid (fun (o : Obj) => below_alloc0 w o)
  have C := Lib.hid (fun (W : World) (hb : Below w.heap.size w W) => users_any _ p.query W (SQ.out.later hb) h1 h2)
  have HL := Lib.hid (show p.query.users.length ≤ 1000 by simp only [QueryD.users, List.length_append, List.length_map]; omega)
  clear h1 h2
  go_enter Try.func21, Try.ntmps21
  go_wp2_with fail
  (with_reducible refine (C.out _ (HB.out _)).mono ?_)
  rintro e w1 ⟨v, rfl, hown, hb1⟩
  have hlen := HL.out
  obtain ⟨o, c, rfl⟩ : ∃ o c, v = .slice o p.query.users.length c := by
    rcases hown.2 with ⟨rfl, e⟩ | ⟨g, cap, _, rfl, _⟩
    · exact ⟨none, 0, by rw [e]⟩
    · exact ⟨_, _, rfl⟩
  have hrow : Row w1 1 (rI .u32) (.slice o p.query.users.length c) p.query.users := Row.of_own hown rfl (fun i x hx => by
    refine ⟨?_, SQ.out.users_wf x (List.mem_of_getElem? hx)⟩
    obtain ⟨hl, rfl⟩ := List.getElem?_eq_some_iff.1 hx
    rw [Nat.mul_one, cellsU, ← List.map_drop, List.drop_eq_getElem_cons hl]
    rfl)
  have D := Lib.hid (containsU o p.query.users.length c p.query.users u w1 hrow hlen)
  have HB1 := Lib.hid (below_call (HB.out _) hb1)
  clear hown hrow hb1
  go_wp2_with fail
  (with_reducible refine D.out.mono ?_)
  rintro e w2 ⟨rfl, rfl⟩
  go_wp2_with fail
  go_ret
  exact ⟨rfl, HB1.out⟩
end Go.Proofs.Ytcleicjgeflbnaa
