/- The walk of Vote where a vote is told that was said. Conditions: there is such a poll, it asks the caller, the polls' numbers rise, there are at most a hundred, its query names at most a hundred users of each kind. -/
import Derived.Test.YtcleicjgeflbnaaG48
import Derived.Test.YtcleicjgeflbnaaG37
import Derived.Test.YtcleicjgeflbnaaG41
import Derived.Deep.RegionHeld3
import Derived.Deep.DrawnRows
namespace Go.Proofs.Ytcleicjgeflbnaa
open Go.RowKit Go.ChangeShapes Go.WideShapes Go.Deep
attribute [local go_sem ↓] Go.wp_at_zero Go.wp_at_succ

set_option maxHeartbeats 8000000 in
set_option maxRecDepth 100000 in
theorem vote_same1 (cs : List Value) (A : Array Value) (x : StateD) (a : AskD) (m w : World) (hm : Sub m w) (h : rState m cs x) (ha : AskA A a) (hr : rises (·.id) x.polls) (hn : x.polls.length ≤ 100) (i : Nat) (y : PollD) (hi : x.polls[i]? = some y) (hid : y.id = a.poll) (q1 : y.query.must.length ≤ 100) (q2 : y.query.may.length ≤ 100) (hyes : a.caller ∈ y.query.users) (hs : y.state = 1) (hrg : 0 ≤ a.slot ∧ a.slot < (y.slots.length : Int)) (hvr : votesRise y.votes) (hvl : y.votes.length ≤ 900) (a40 : ∀ h : 40 < A.size, A[40]'h = .bool true) (hF : ∀ j f, PlaceV y.votes ⟨a.caller, a.slot⟩ j f → f = true) :
    Calls Try.prog 9 #[.agg cs.toArray, .agg A] w fun e w' => ∃ cs' j, e = .returned (.tuple #[.agg (Array.mk cs'), .int .u64 (((told y.votes ⟨a.caller, a.slot⟩ j true true).countP (fun v => decide (v.slot = a.slot)) : Nat) : Int), .int .i64 0]) ∧ PlaceV y.votes ⟨a.caller, a.slot⟩ j true ∧ StateAt m w.heap.size w' cs' (x.tell i y (told y.votes ⟨a.caller, a.slot⟩ j true true)) ∧ Below w.heap.size w w' := by

  have SW := Lib.hid h
  have HM := Lib.hid (fun (W : World) (hb : Below w.heap.size w W) => hm.trans (Sub.of_below hb))
  have HR := Lib.hid hr
  have HN := Lib.hid hyes; have HI := Lib.hid hi; have HID := Lib.hid hid; have HQ := Lib.hid (And.intro q1 q2); have HSe := Lib.hid hs
  have HRG := Lib.hid hrg
  have HVR := Lib.hid hvr; have HVL := Lib.hid hvl; have HF := Lib.hid hF
  obtain ⟨hsz, a1, a38, a39⟩ := ha
  clear hr hyes hi hid q1 q2 hs hrg hvr hvl hF
  obtain ⟨u, vp, d, rfl, -, ⟨o1, n1, c1, rfl, -⟩, ⟨o2, n2, c2, rfl, -⟩, ⟨o3, n3, c3, rfl, -⟩⟩ := h
  have HB := Lib.hid (show Below w.heap.size w (((w.alloc (.cells #[.int .i64 x.clock, .slice o1 n1 c1, .slice o2 n2 c2, .slice o3 n3 c3] 26)).alloc (.cells A 54)).alloc (.cells #[.int .i64 0, .slice none 0 0, .slice none 0 0, .slice none 0 0] 26)) from (((Below.refl _ _).alloc (Nat.le_refl _) _).alloc (by simp) _).alloc (by simp; omega) _)
  have C := Lib.hid (fun (W : World) (hb : Below w.heap.size w W) => find_to _ x a.poll m W (HM.out W hb) SW.out HR.out hn)
  go_enter Try.func9, Try.ntmps9
  go_wp2_with fail
  (with_reducible refine (C.out _ HB.out).mono ?_)
  rintro e w1 ⟨cs0, f, z, he, hf, hy, hb1⟩
  obtain ⟨rfl, rfl⟩ := hf.is HR.out HI.out HID.out
  clear hf
  rw [show Array.mk cs0 = cs0.toArray from rfl] at he
  have SR := Lib.hid hy
  obtain ⟨qq, qs, qv, rfl, -, -, -, wst, -, ⟨qm, qy, qa, qp, rfl, -, -, -, -, -, ⟨om, nm, cm, rfl, -⟩, ⟨oy, ny, cy, rfl, -⟩, ⟨oa, na, ca, rfl, -⟩, ⟨op, np, cp, rfl, -⟩⟩, hsl, hvo⟩ := hy
  obtain ⟨os, ns', cs', rfl, lsl, _, ksl, _⟩ := hsl.open
  obtain ⟨ov, nv, cv, rfl, lv, nvc, kv, RV⟩ := hvo.open
  have hM : ns' < 9223372036854775808 := by (unfold maxLen at ksl; omega)
  have LS := Lib.hid lsl; have LV := Lib.hid lv; have SV := Lib.hid RV; have WST := Lib.hid wst
  clear hsl lsl hvo lv RV ksl nvc kv wst
  simp only [List.cons_append, List.nil_append] at he SR
  subst he
  have vi1 : VI w w1.heap.size #[.int .i64 x.clock, .slice o1 n1 c1, .slice o2 n2 c2, .slice o3 n3 c3] A #[.int .i64 0, .slice none 0 0, .slice none 0 0, .slice none 0 0] #[.int .u32 z.id, .int .u32 z.owner, .int .i64 z.query.from_, .int .i64 z.query.to_, .int .i64 z.query.long, .int .i64 z.query.grid, .slice om nm cm, .slice oy ny cy, .int .i64 z.query.seats, .slice oa na ca, .slice op np cp, .slice os ns' cs', .slice ov nv cv, .int .i64 z.until_, .int .i64 z.state, .int .i64 z.winner] (w1.alloc (.cells #[.int .u32 z.id, .int .u32 z.owner, .int .i64 z.query.from_, .int .i64 z.query.to_, .int .i64 z.query.long, .int .i64 z.query.grid, .slice om nm cm, .slice oy ny cy, .int .i64 z.query.seats, .slice oa na ca, .slice op np cp, .slice os ns' cs', .slice ov nv cv, .int .i64 z.until_, .int .i64 z.state, .int .i64 z.winner] 64)) := by
    have hz := hb1.size
    simp only [World.size_alloc] at hz
    refine ⟨(heap_alloc_old _ _ (by omega)).trans ((hb1.block _ (by simp; omega)).trans (heap_alloc3_old w _ _ _)), (heap_alloc_old _ _ (by omega)).trans ((hb1.block _ (by simp)).trans (heap_alloc3_mid w _ _ _)), (heap_alloc_old _ _ (by omega)).trans ((hb1.block _ (by simp)).trans (heap_alloc3_new w _ _ _)), heap_alloc_new w1 _, by omega, ?_⟩
    exact (below_call HB.out hb1).alloc (by omega) _
  have kB1 : ∀ j, World.cell? w1 ⟨w.heap.size + 1, j, none⟩ = World.cell? ((w.alloc (.cells #[.int .i64 x.clock, .slice o1 n1 c1, .slice o2 n2 c2, .slice o3 n3 c3] 26)).alloc (.cells A 54)) ⟨w.heap.size + 1, j, none⟩ := fun j => (hb1.cell (by simp)).trans (World.cell?_alloc_lt _ _ _ (by simp))
  have hzB : w.heap.size + 1 < w1.heap.size := Nat.lt_of_lt_of_le (by simp) hb1.size
  have D := Lib.hid (fun (W : World) (hb : Below w.heap.size w W) => c_t (asks_any _ z a.caller W (SR.out.sub (HM.out W hb)) HQ.out.1 HQ.out.2) HN.out)
  have HV1 := Lib.hid vi1
  clear hb1 vi1
  go_upto_region 4 with fail
  refine wp_region_lit ?_
  refine wpList_load_row rfl 64 (.tmp 7) rfl w1.heap.size rfl 64 #[.int .u32 z.id, .int .u32 z.owner, .int .i64 z.query.from_, .int .i64 z.query.to_, .int .i64 z.query.long, .int .i64 z.query.grid, .slice om nm cm, .slice oy ny cy, .int .i64 z.query.seats, .slice oa na ca, .slice op np cp, .slice os ns' cs', .slice ov nv cv, .int .i64 z.until_, .int .i64 z.state, .int .i64 z.winner] (0, 0) _ HV1.out.hg Try.underlying64 rfl size64 ?_
  go_wp2_with fail
  (with_reducible refine (D.out _ HV1.out.below).mono ?_)
  rintro e w2 ⟨rfl, hb2⟩
  have vi2 := HV1.out.later hb2
  have HV2 := Lib.hid vi2
  have kA2 := vi2.kA; have kB2 := vi2.kB; have kC2 := vi2.kC; have kP2 := vi2.kP; have zC2 := vi2.zC; have zP2 := vi2.zP
  have lt2 := vi2.ltW; have ltC := vi2.lt
  clear hb2 vi2 kB1 hzB
  have b1 : (z.state == 1) = true := by have := HSe.out; simpa using this
  have d1 : decide (z.state = 1) = true := decide_eq_true HSe.out
  have r1 : ¬ a.slot < 0 := by have := HRG.out; omega
  have e1 := decide_eq_false r1
  have r2 : ¬ (ns' : Int) ≤ a.slot := by have := HRG.out; have := LS.out; omega
  have e2 := decide_eq_false r2
  have hvb : Below w.heap.size w (w2.alloc (.cells #[.int .u32 a.caller, .int .i64 a.slot] 68)) := (HV2.out.alloc _).below
  have E := Lib.hid (searchVotes ov nv cv z.votes ⟨a.caller, a.slot⟩ _ (SV.out.sub' (HM.out _ hvb)) HVR.out (by have := HVL.out; have := LV.out; omega))
  clear hvb r1 r2
  go_wp2_with fail
  (with_reducible refine E.out.mono ?_)
  rintro e w3 ⟨j, f, rfl, hpl, hb3⟩
  obtain rfl := HF.out j f hpl
  have HPL := Lib.hid hpl
  have hjn : j ≤ nv := by have := hpl.le; have := LV.out; omega
  have vi3 := (HV2.out.alloc (.cells #[.int .u32 a.caller, .int .i64 a.slot] 68)).later hb3
  have HV3 := Lib.hid vi3
  have hv3 : w3.heap[w2.heap.size]? = some (.cells #[.int .u32 a.caller, .int .i64 a.slot] 68 (0, 0)) := (hb3.block _ (by simp)).trans (heap_alloc_new w2 _)
  have HVb3 := Lib.hid hv3
  have kB3 := vi3.kB; have kP3 := vi3.kP
  have G := Lib.hid (cloneV ov nv cv z.votes w3 (SV.out.sub' (HM.out _ vi3.below)) (by have := HVL.out; have := LV.out; omega))
  have lt3 : w1.heap.size < w3.heap.size := vi3.ltW
  have ltv : w2.heap.size < w3.heap.size := (Array.getElem?_eq_some_iff.1 hv3).1
  clear hpl hb3 vi3 hv3 kA2 kB2 kC2 kP2 zC2 zP2 E
  go_wp2_with fail
  (with_reducible refine G.out.mono ?_)
  rintro e w4 ⟨v, rfl, hown, hb4⟩
  obtain ⟨o, cap, rfl⟩ : ∃ o cap, v = .slice o nv cap := by
    rcases hown.2 with ⟨rfl, rfl⟩ | ⟨g, cap, _, rfl, _⟩
    · exact ⟨_, _, rfl⟩
    · exact ⟨_, _, rfl⟩
  have vi4 := HV3.out.later hb4
  have VI4 := Lib.hid (vi4.setL 12 (.slice o nv cap))
  have zP4 := vi4.zP
  have kP4 := vi4.kP; have kB4 := vi4.kB
  have lt4 : w3.heap.size ≤ w4.heap.size := hb4.size
  have hv4 : ∀ j', World.cell? w4 ⟨w2.heap.size, j', none⟩ = World.cell? (w2.alloc (.cells #[.int .u32 a.caller, .int .i64 a.slot] 68)) ⟨w2.heap.size, j', none⟩ := fun j' => (cell_of_row _ _ _ _ _ _ ((hb4.block _ ltv).trans HVb3.out)).trans (cell_of_row _ _ _ _ _ _ (heap_alloc_new w2 _)).symm
  have HO4 := Lib.hid (ownsRow_setCell_below hown (a := ⟨w1.heap.size, 12, none⟩) lt3 (.slice o nv cap))
  clear hown hb4 vi4 kB3 kP3 G
  have VI6 := Lib.hid (show VI w w1.heap.size #[.int .i64 x.clock, .slice o1 n1 c1, .slice o2 n2 c2, .slice o3 n3 c3] A #[.int .i64 0, .slice none 0 0, .slice none 0 0, .slice none 0 0] #[.int .u32 z.id, .int .u32 z.owner, .int .i64 z.query.from_, .int .i64 z.query.to_, .int .i64 z.query.long, .int .i64 z.query.grid, .slice om nm cm, .slice oy ny cy, .int .i64 z.query.seats, .slice oa na ca, .slice op np cp, .slice os ns' cs', .slice o nv cap, .int .i64 z.until_, .int .i64 z.state, .int .i64 z.winner] (w4.setCell ⟨w1.heap.size, 12, none⟩ (.slice o nv cap)) from VI4.out)
  have HO6 := HO4
  have hwf : ∀ u ∈ z.votes, wfi .u32 u.user ∧ wfi .i64 u.slot := fun u hu => by
    obtain ⟨_, rfl, h1, h2⟩ := SV.out.each hu
    exact ⟨h1, h2⟩
  have HWU := Lib.hid (show wfi .u32 a.caller from (rPoll.query_of SR.out).elim fun _ hq => hq.users_wf _ HN.out)
  have HWS := Lib.hid (show wfi .i64 a.slot from by
    have h1 := HRG.out
    have h2 := LS.out
    have h3 : IntKind.i64.min = -9223372036854775808 := by decide
    have h4 : IntKind.i64.max = 9223372036854775807 := by decide
    exact ⟨by omega, by omega⟩)
  have HPA := Lib.hid (show PollAt m w3.heap.size (w4.setCell ⟨w1.heap.size, 12, none⟩ (.slice o nv cap)) [.int .u32 z.id, .int .u32 z.owner, .int .i64 z.query.from_, .int .i64 z.query.to_, .int .i64 z.query.long, .int .i64 z.query.grid, .slice om nm cm, .slice oy ny cy, .int .i64 z.query.seats, .slice oa na ca, .slice op np cp, .slice os ns' cs', .slice o nv cap, .int .i64 z.until_, .int .i64 z.state, .int .i64 z.winner] { z with votes := z.votes } from poll_votes (base := w3.heap.size) SR.out HO6.out (by exact LV.out) (hwf))
  clear hwf
  have CW := Lib.hid (with_vi (base := w3.heap.size) (p := { z with votes := z.votes }) (S := [.int .i64 x.clock, .slice o1 n1 c1, .slice o2 n2 c2, .slice o3 n3 c3]) (L := [.int .u32 z.id, .int .u32 z.owner, .int .i64 z.query.from_, .int .i64 z.query.to_, .int .i64 z.query.long, .int .i64 z.query.grid, .slice om nm cm, .slice oy ny cy, .int .i64 z.query.seats, .slice oa na ca, .slice op np cp, .slice os ns' cs', .slice o nv cap, .int .i64 z.until_, .int .i64 z.state, .int .i64 z.winner]) VI6.out.drew (by show w3.heap.size ≤ ((w4.setCell ⟨w1.heap.size, 12, none⟩ (.slice o nv cap))).heap.size; simp [World.setCell]; omega) hm HPA.out.drew SW.out HR.out hn i HI.out rfl)
  have h02 : w.heap.size + 1 + 1 ≠ w1.heap.size := by omega
  have h03 : w.heap.size + 1 + 1 ≠ w.heap.size := by omega
  have h04 : w.heap.size + 1 + 1 ≠ w.heap.size + 1 := by omega
  have vi6 := VI6.out
  have hS0 := And.intro vi6.kA (And.intro vi6.kB vi6.kP)
  clear vi6
  go_upto_region 17 with fail
  go_region_held3 (fun W' => (∀ j, W'.cell? ⟨w.heap.size, j, none⟩ = World.cell? (w.alloc (.cells #[.int .i64 x.clock, .slice o1 n1 c1, .slice o2 n2 c2, .slice o3 n3 c3] 26)) ⟨w.heap.size, j, none⟩) ∧ (∀ j, W'.cell? ⟨w.heap.size + 1, j, none⟩ = World.cell? ((w.alloc (.cells #[.int .i64 x.clock, .slice o1 n1 c1, .slice o2 n2 c2, .slice o3 n3 c3] 26)).alloc (.cells A 54)) ⟨w.heap.size + 1, j, none⟩) ∧ (∀ j, W'.cell? ⟨w1.heap.size, j, none⟩ = World.cell? (w1.alloc (.cells #[.int .u32 z.id, .int .u32 z.owner, .int .i64 z.query.from_, .int .i64 z.query.to_, .int .i64 z.query.long, .int .i64 z.query.grid, .slice om nm cm, .slice oy ny cy, .int .i64 z.query.seats, .slice oa na ca, .slice op np cp, .slice os ns' cs', .slice o nv cap, .int .i64 z.until_, .int .i64 z.state, .int .i64 z.winner] 64)) ⟨w1.heap.size, j, none⟩)) (first | assumption | exact ⟨fun j => (far4 _ h03 _ _ _ _).trans (hSA j), fun j => (far4 _ h04 _ _ _ _).trans (hSB j), fun j => (far4 _ h02 _ _ _ _).trans (hSP j)⟩) (first | (go_at_call 27; refine CW.out.mono ?_; rintro e w7 ⟨p1, t1, r1, p2, t2, r2, p3, t3, r3, rfl, hS7, hrd7⟩) | (go_at_call 28; refine (yes_vi (w1 := w1) (S := [.int .i64 x.clock, .slice o1 n1 c1, .slice o2 n2 c2, .slice o3 n3 c3]) (L := [.int .u32 z.id, .int .u32 z.owner, .int .i64 z.query.from_, .int .i64 z.query.to_, .int .i64 z.query.long, .int .i64 z.query.grid, .slice om nm cm, .slice oy ny cy, .int .i64 z.query.seats, .slice oa na ca, .slice op np cp, .slice os ns' cs', .slice o nv cap, .int .i64 z.until_, .int .i64 z.state, .int .i64 z.winner]) a.slot hrd7.out.1 hm hrd7.out.2.1).mono ?_; rintro e w8 ⟨rfl, hS8, ⟨f0, f1, f2, f3⟩, hz8, hrd8⟩; have hSA := hS8.1; have hSB := hS8.2.1; have hSP := hS8.2.2))
  go_wp2_with fail
  (try simp only [Exit.inBlock, Exit.then])
  refine bodyPost_ret (results_box rfl _ _ _ [.int .i64 x.clock, .slice p1 t1 r1, .slice p2 t2 r2, .slice p3 t3 r3] _ rfl (fun j z hj => set_four (fun j hj => ?_) j z hj) Try.underlying26 rfl size26) rfl ?_
  · match j, hj with
    | 0, _ => exact ⟨_, f0⟩
    | 1, _ => exact ⟨_, f1⟩
    | 2, _ => exact ⟨_, f2⟩
    | 3, _ => exact ⟨_, f3⟩
  · obtain ⟨vi7, hpa7, hst7, hsz7⟩ := hrd7.out
    obtain ⟨vi8, hb8⟩ := hrd8.out
    have hbf : Below w.heap.size w ((((w8.setCell ⟨w.heap.size + 1 + 1, 0, none⟩ (.int .i64 x.clock)).setCell ⟨w.heap.size + 1 + 1, 1, none⟩ (.slice p1 t1 r1)).setCell ⟨w.heap.size + 1 + 1, 2, none⟩ (.slice p2 t2 r2)).setCell ⟨w.heap.size + 1 + 1, 3, none⟩ (.slice p3 t3 r3)) :=
      (((vi8.below.setCell (by simp; omega) _).setCell (by simp; omega) _).setCell (by simp; omega) _).setCell (by simp; omega) _
    have hle : z.votes.countP (fun v => decide (v.slot = a.slot)) ≤ nv + 1 := Nat.le_trans List.countP_le_length (by have := HPL.out.le; have := LV.out; omega)
    have hwrap : (IntKind.u64).wrap ((z.votes.countP (fun v => decide (v.slot = a.slot)) : Nat) : Int) = ((z.votes.countP (fun v => decide (v.slot = a.slot)) : Nat) : Int) := by
      have := HVL.out; have := LV.out
      rw [IntKind.wrap_u64]; omega
    refine ⟨[.int .i64 x.clock, .slice p1 t1 r1, .slice p2 t2 r2, .slice p3 t3 r3], j, ?_, HPL.out, fun w'' g1 g2 => (hst7.later hb8) w'' g1 (fun k h1 h2 => (g2 k (by omega) (by simpa [World.setCell] using h2)).trans ?_), hbf⟩
    · show _ = Ending.returned (.tuple #[_, .int .u64 ((z.votes.countP (fun v => decide (v.slot = a.slot)) : Nat) : Int), _])
      rw [← hwrap]; rfl
    · have hne : k ≠ w.heap.size + 1 + 1 := by omega
      rw [Below.heap_setCell _ _ _ _ hne, Below.heap_setCell _ _ _ _ hne, Below.heap_setCell _ _ _ _ hne, Below.heap_setCell _ _ _ _ hne]
end Go.Proofs.Ytcleicjgeflbnaa
