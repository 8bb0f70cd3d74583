/- The walk of Vote where the poll is not open. Conditions: there is such a poll, it asks the caller, the polls' numbers rise, there are at most a hundred, its query names at most a hundred users of each kind. -/
import Derived.Test.YtcleicjgeflbnaaG48
import Derived.Test.YtcleicjgeflbnaaG37
import Derived.Deep.RegionHeld3
import Derived.Deep.DrawnRows
namespace Go.Proofs.Ytcleicjgeflbnaa
open Go.RowKit Go.ChangeShapes Go.WideShapes Go.Deep
attribute [local go_sem ↓] Go.wp_at_zero Go.wp_at_succ

set_option maxHeartbeats 8000000 in
set_option maxRecDepth 100000 in
theorem vote_shut (cs : List Value) (A : Array Value) (x : StateD) (a : AskD) (m w : World) (hm : Sub m w) (h : rState m cs x) (ha : AskA A a) (hr : rises (·.id) x.polls) (hn : x.polls.length ≤ 100) (i : Nat) (y : PollD) (hi : x.polls[i]? = some y) (hid : y.id = a.poll) (q1 : y.query.must.length ≤ 100) (q2 : y.query.may.length ≤ 100) (hyes : a.caller ∈ y.query.users) (hs : y.state ≠ 1) :
    Calls Try.prog 9 #[.agg cs.toArray, .agg A] w fun e w' => e = .returned (.tuple #[.agg cs.toArray, .int .u64 0, .int .i64 10]) ∧ Below w.heap.size w w' := by

  have SW := Lib.hid h
  have HM := Lib.hid (fun (W : World) (hb : Below w.heap.size w W) => hm.trans (Sub.of_below hb))
  have HR := Lib.hid hr
  have HN := Lib.hid hyes; have HI := Lib.hid hi; have HID := Lib.hid hid; have HQ := Lib.hid (And.intro q1 q2); have HSe := Lib.hid hs


  obtain ⟨hsz, a1, a38, a39⟩ := ha
  clear hr hyes hi hid q1 q2 hs
  obtain ⟨u, vp, d, rfl, -, ⟨o1, n1, c1, rfl, -⟩, ⟨o2, n2, c2, rfl, -⟩, ⟨o3, n3, c3, rfl, -⟩⟩ := h
  have HB := Lib.hid (show Below w.heap.size w (((w.alloc (.cells #[.int .i64 x.clock, .slice o1 n1 c1, .slice o2 n2 c2, .slice o3 n3 c3] 26)).alloc (.cells A 54)).alloc (.cells #[.int .i64 0, .slice none 0 0, .slice none 0 0, .slice none 0 0] 26)) from (((Below.refl _ _).alloc (Nat.le_refl _) _).alloc (by simp) _).alloc (by simp; omega) _)
  have C := Lib.hid (fun (W : World) (hb : Below w.heap.size w W) => find_to _ x a.poll m W (HM.out W hb) SW.out HR.out hn)
  go_enter Try.func9, Try.ntmps9
  go_wp2_with fail
  (with_reducible refine (C.out _ HB.out).mono ?_)
  rintro e w1 ⟨cs0, f, z, he, hf, hy, hb1⟩
  obtain ⟨rfl, rfl⟩ := hf.is HR.out HI.out HID.out
  clear hf
  rw [show Array.mk cs0 = cs0.toArray from rfl] at he
  have SR := Lib.hid hy
  obtain ⟨qq, qs, qv, rfl, -, -, -, wst, -, ⟨qm, qy, qa, qp, rfl, -, -, -, -, -, ⟨om, nm, cm, rfl, -⟩, ⟨oy, ny, cy, rfl, -⟩, ⟨oa, na, ca, rfl, -⟩, ⟨op, np, cp, rfl, -⟩⟩, hsl, hvo⟩ := hy
  obtain ⟨os, ns', cs', rfl, lsl, _, ksl, _⟩ := hsl.open
  obtain ⟨ov, nv, cv, rfl, lv, nvc, kv, RV⟩ := hvo.open
  have hM : ns' < 9223372036854775808 := by (unfold maxLen at ksl; omega)
  have LS := Lib.hid lsl; have LV := Lib.hid lv; have SV := Lib.hid RV; have WST := Lib.hid wst
  clear hsl lsl hvo lv RV ksl nvc kv wst
  simp only [List.cons_append, List.nil_append] at he SR
  subst he
  have vi1 : VI w w1.heap.size #[.int .i64 x.clock, .slice o1 n1 c1, .slice o2 n2 c2, .slice o3 n3 c3] A #[.int .i64 0, .slice none 0 0, .slice none 0 0, .slice none 0 0] #[.int .u32 z.id, .int .u32 z.owner, .int .i64 z.query.from_, .int .i64 z.query.to_, .int .i64 z.query.long, .int .i64 z.query.grid, .slice om nm cm, .slice oy ny cy, .int .i64 z.query.seats, .slice oa na ca, .slice op np cp, .slice os ns' cs', .slice ov nv cv, .int .i64 z.until_, .int .i64 z.state, .int .i64 z.winner] (w1.alloc (.cells #[.int .u32 z.id, .int .u32 z.owner, .int .i64 z.query.from_, .int .i64 z.query.to_, .int .i64 z.query.long, .int .i64 z.query.grid, .slice om nm cm, .slice oy ny cy, .int .i64 z.query.seats, .slice oa na ca, .slice op np cp, .slice os ns' cs', .slice ov nv cv, .int .i64 z.until_, .int .i64 z.state, .int .i64 z.winner] 64)) := by
    have hz := hb1.size
    simp only [World.size_alloc] at hz
    refine ⟨(heap_alloc_old _ _ (by omega)).trans ((hb1.block _ (by simp; omega)).trans (heap_alloc3_old w _ _ _)), (heap_alloc_old _ _ (by omega)).trans ((hb1.block _ (by simp)).trans (heap_alloc3_mid w _ _ _)), (heap_alloc_old _ _ (by omega)).trans ((hb1.block _ (by simp)).trans (heap_alloc3_new w _ _ _)), heap_alloc_new w1 _, by omega, ?_⟩
    exact (below_call HB.out hb1).alloc (by omega) _
  have kB1 : ∀ j, World.cell? w1 ⟨w.heap.size + 1, j, none⟩ = World.cell? ((w.alloc (.cells #[.int .i64 x.clock, .slice o1 n1 c1, .slice o2 n2 c2, .slice o3 n3 c3] 26)).alloc (.cells A 54)) ⟨w.heap.size + 1, j, none⟩ := fun j => (hb1.cell (by simp)).trans (World.cell?_alloc_lt _ _ _ (by simp))
  have hzB : w.heap.size + 1 < w1.heap.size := Nat.lt_of_lt_of_le (by simp) hb1.size
  have D := Lib.hid (fun (W : World) (hb : Below w.heap.size w W) => c_t (asks_any _ z a.caller W (SR.out.sub (HM.out W hb)) HQ.out.1 HQ.out.2) HN.out)
  have HV1 := Lib.hid vi1
  clear hb1 vi1
  go_upto_region 4 with fail
  refine wp_region_lit ?_
  refine wpList_load_row rfl 64 (.tmp 7) rfl w1.heap.size rfl 64 #[.int .u32 z.id, .int .u32 z.owner, .int .i64 z.query.from_, .int .i64 z.query.to_, .int .i64 z.query.long, .int .i64 z.query.grid, .slice om nm cm, .slice oy ny cy, .int .i64 z.query.seats, .slice oa na ca, .slice op np cp, .slice os ns' cs', .slice ov nv cv, .int .i64 z.until_, .int .i64 z.state, .int .i64 z.winner] (0, 0) _ HV1.out.hg Try.underlying64 rfl size64 ?_
  go_wp2_with fail
  (with_reducible refine (D.out _ HV1.out.below).mono ?_)
  rintro e w2 ⟨rfl, hb2⟩
  have vi2 := HV1.out.later hb2
  have HV2 := Lib.hid vi2
  have kA2 := vi2.kA; have kB2 := vi2.kB; have kC2 := vi2.kC; have kP2 := vi2.kP; have zC2 := vi2.zC; have zP2 := vi2.zP
  have lt2 := vi2.ltW; have ltC := vi2.lt
  clear hb2 vi2 kB1 hzB
  have KB2 := Lib.hid (show ∀ j, j < 4 → (World.cell? w2 ⟨w.heap.size + 1 + 1, j, none⟩).isSome = true from fun j hj => by
    rw [kC2, cell_of_row _ _ _ _ _ _ (heap_alloc3_new w _ _ _), Array.getElem?_eq_getElem hj]; rfl)
  have HCC := Lib.hid (chain_cells w2 (w.heap.size + 1 + 1) [.int .i64 x.clock, .slice o1 n1 c1, .slice o2 n2 c2, .slice o3 n3 c3] KB2.out)
  have HBB := Lib.hid (Below.setCells (show w.heap.size ≤ w.heap.size + 1 + 1 by omega) [.int .i64 x.clock, .slice o1 n1 c1, .slice o2 n2 c2, .slice o3 n3 c3] 0 w2 HV2.out.below)
  have b1 : (z.state == 1) = false := by have := HSe.out; simpa using this
  have d1 : decide (z.state = 1) = false := decide_eq_false HSe.out
  go_wp2_with fail
  (try simp only [Exit.inBlock, Exit.then])
  refine bodyPost_ret (results_box rfl _ _ _ [.int .i64 x.clock, .slice o1 n1 c1, .slice o2 n2 c2, .slice o3 n3 c3] _ rfl (fun j z hj => HCC.out j z hj) Try.underlying26 rfl size26) rfl ?_
  exact ⟨rfl, HBB.out⟩
end Go.Proofs.Ytcleicjgeflbnaa
