/- The walk of PollTwice: it answers true. No condition but that the arguments read. -/
import Derived.Test.YtcleicjgeflbnaaG56
import Derived.Test.YtcleicjgeflbnaaG42
import Derived.Test.YtcleicjgeflbnaaG28
import Derived.Test.YtcleicjgeflbnaaG26
import Derived.Test.YtcleicjgeflbnaaG9
namespace Go.Proofs.Ytcleicjgeflbnaa
open Go.RowKit Go.ChangeShapes Go.WideShapes Go.Deep

theorem AskA.set {A : Array Value} {a : AskD} (h : AskA A a) (v : Value) : AskA (A.setIfInBounds 40 v) a ∧ (∀ h : 40 < (A.setIfInBounds 40 v).size, (A.setIfInBounds 40 v)[40]'h = v) := by
  have hs := h.size
  refine ⟨⟨by simpa using hs, fun hh => ?_, fun hh => ?_, fun hh => ?_⟩, fun hh => by simp⟩
  · rw [Array.getElem_setIfInBounds_ne (by omega) (by omega)]; exact h.a1 _
  · rw [Array.getElem_setIfInBounds_ne (by omega) (by omega)]; exact h.a38 _
  · rw [Array.getElem_setIfInBounds_ne (by omega) (by omega)]; exact h.a39 _
theorem heap_keep {w w' : World} {g : Nat} {o : Obj} (h : w.heap[g]? = some o) (hb : Below w.heap.size w w') : w'.heap[g]? = some o := (hb.block _ (Array.getElem?_eq_some_iff.1 h).1).trans h
theorem heap_more {w : World} {g : Nat} {o : Obj} (h : w.heap[g]? = some o) (o' : Obj) : (w.alloc o').heap[g]? = some o := heap_keep h ((Below.refl _ _).alloc (Nat.le_refl _) _)
theorem cell_40 {w : World} {g : Nat} {A : Array Value} {t : TypeId} (h : w.heap[g]? = some (.cells A t (0, 0))) (hs : A.size = 42) : ∃ v, w.cell? ⟨g, 40, none⟩ = some v :=
  ⟨_, (cell_of_row w g 40 A _ _ h).trans (Array.getElem?_eq_getElem (by omega))⟩
theorem set_40 {w : World} {g : Nat} {A : Array Value} {t : TypeId} (h : w.heap[g]? = some (.cells A t (0, 0))) (v : Value) : (w.setCell ⟨g, 40, none⟩ v).heap[g]? = some (.cells (A.setIfInBounds 40 v) t (0, 0)) := heap_setCell_same w g 40 A t v h
theorem StateD.voteOk {x : StateD} (h1 : x.small) (h2 : x.rises24) : VoteOk x 300 :=
  ⟨h2.1.1, h2.1.2, Nat.le_trans h1.2.1 (by decide), fun i p hp => Nat.le_trans (h1.2.2.2.2 i p hp).1.1 (by decide), fun i p hp => Nat.le_trans (h1.2.2.2.2 i p hp).1.2.1 (by decide), fun i p hp => (h1.2.2.2.2 i p hp).2.2⟩

/-- A world without one block. -/
def kill (W : World) (g : Nat) : World := { W with heap := W.heap.setIfInBounds g (.deferred none) }
theorem kill_heap {W : World} {g k : Nat} (h : k ≠ g) : (kill W g).heap[k]? = W.heap[k]? := by simp [kill, Array.getElem?_setIfInBounds_ne (Ne.symm h)]
theorem kill_cell {W : World} {g : Nat} {p : Addr} {v : Value} (h : (kill W g).cell? p = some v) : p.block ≠ g ∧ W.cell? p = some v := by
  by_cases hp : p.block = g
  · exfalso
    unfold World.cell? at h
    rw [hp] at h
    by_cases hl : g < W.heap.size
    · rw [show (kill W g).heap[g]? = some (.deferred none) from by simp [kill, hl]] at h
      cases h
    · rw [Array.getElem?_eq_none (by simp [kill]; omega)] at h
      cases h
  · exact ⟨hp, (World.cell?_of_block (kill_heap hp)).symm.trans h⟩
theorem kill_sub {W W' : World} {g : Nat} (h : ∀ k, k < W.heap.size → k ≠ g → W'.heap[k]? = W.heap[k]?) : Sub (kill W g) W' := fun p v e => by
  obtain ⟨h1, h2⟩ := kill_cell e
  exact (World.cell?_of_block (h _ (World.block_lt_of_cell? W _ h2) h1)).trans h2
theorem kill_kill {W W' : World} {g : Nat} (h : Below W.heap.size W W') : Sub (kill W g) (kill W' g) := kill_sub fun k h1 h2 => (kill_heap h2).trans (h.block k h1)
theorem sub_kill {w W : World} {g : Nat} (h : Below w.heap.size w W) (hg : w.heap.size ≤ g) : Sub w (kill W g) := fun p v e => by
  have hl := World.block_lt_of_cell? w _ e
  exact (World.cell?_of_block ((kill_heap (by omega)).trans (h.block _ hl))).trans e

/-- Has a user said yes to a slot, among the first votes? -/
def saidIn (xs : List VoteD) (u s : Int) : Bool := xs.any fun v => decide (v.user = u ∧ v.slot = s)
theorem saidIn_snoc (xs : List VoteD) (k : Nat) (v : VoteD) (u s : Int) (h : xs[k]? = some v) : saidIn (xs.take (k + 1)) u s = (saidIn (xs.take k) u s || decide (v.user = u ∧ v.slot = s)) := by
  rw [saidIn, List.take_add_one, h]
  simp [saidIn]
theorem saidIn_no {xs : List VoteD} {u s : Int} (h : saidIn xs u s = false) : ∀ v ∈ xs, ¬ (v.user = u ∧ v.slot = s) := by
  intro v hv e
  have : saidIn xs u s = true := by
    rw [saidIn, List.any_eq_true]
    exact ⟨v, hv, by simpa using e⟩
  rw [h] at this
  cases this

set_option maxHeartbeats 8000000 in
set_option maxRecDepth 100000 in
theorem pollTwice_walk (cs ds : List Value) (x : StateD) (a : AskD) (w : World) (h : rState w cs x) (ha : rAsk w ds a) :
    Calls Try.prog 4 #[.agg cs.toArray, .agg ds.toArray] w fun e w' => e = .returned (.bool true) ∧ Below w.heap.size w w' := by
  have S0 := Lib.hid h
  obtain ⟨u, p, d, rfl, _, ⟨o1, n1, c1, rfl, _⟩, ⟨o2, n2, c2, rfl, _⟩, ⟨o3, n3, c3, rfl, _⟩⟩ := h
  have SA := Lib.hid ha
  obtain ⟨_, _, _, _, _, _, hask, _, _⟩ := ha.cells
  have CG := Lib.hid (fun (W : World) (hb : Below w.heap.size w W) => great24_any _ ds x a W (S0.out.later hb) (SA.out.later hb))
  generalize hA : ds.toArray = A at hask CG ⊢
  have hsz := hask.size
  have HK := Lib.hid hask
  clear hA ha hask
  have HB := Lib.hid (show Below w.heap.size w ((w.alloc (.cells #[.int .i64 x.clock, .slice o1 n1 c1, .slice o2 n2 c2, .slice o3 n3 c3] 26)).alloc (.cells A 54)) from ((Below.refl _ _).alloc (Nat.le_refl _) _).alloc (by simp) _)
  have CF := Lib.hid (fun (W : World) => fixed_any W)
  go_enter Try.func4, Try.ntmps4
  go_upto_region 1 with fail
  refine wp_region_lit ?_
  refine wpList_load_row rfl 26 (.tmp 2) rfl w.heap.size rfl 26 #[.int .i64 x.clock, .slice o1 n1 c1, .slice o2 n2 c2, .slice o3 n3 c3] (0, 0) _ (heap_alloc2_old w _ _) Try.underlying26 rfl size26 ?_
  refine wpList_load_row rfl 54 (.tmp 3) rfl (w.heap.size + 1) rfl 54 A (0, 0) _ (heap_alloc2_new w _ _) Try.underlying54 rfl (by rw [hsz]; exact size54) ?_
  go_wp2_with fail
  (with_reducible refine (CG.out _ HB.out).mono ?_)
  rintro e w1 ⟨g, rfl, hg, hb1⟩
  have hS1 : w1.heap[w.heap.size]? = some (.cells #[.int .i64 x.clock, .slice o1 n1 c1, .slice o2 n2 c2, .slice o3 n3 c3] 26 (0, 0)) := heap_keep (heap_alloc2_old w _ _) hb1
  have hA1 : w1.heap[w.heap.size + 1]? = some (.cells A 54 (0, 0)) := heap_keep (heap_alloc2_new w _ _) hb1
  have HB1 := Lib.hid (below_call HB.out hb1)
  have HG := Lib.hid hg
  clear hb1 hg
  cases g with
  | true =>
    clear hS1 hA1
    go_wp2_with fail
    (with_reducible refine (CF.out _).mono ?_)
    rintro e w2 ⟨rfl, hb2⟩
    have HB2 := Lib.hid (below_call HB1.out hb2)
    clear hb2
    go_wp2_with fail
    go_ret
    exact ⟨rfl, HB2.out⟩
  | false =>
    have OK := Lib.hid (StateD.voteOk (HG.out rfl).1 (HG.out rfl).2.2.1)
    clear HG CG
    obtain ⟨v40, e40⟩ := cell_40 hA1 hsz
    have z40 : World.frozen? w1 ⟨w.heap.size + 1, 40, none⟩ = false := frozen_of_row _ _ _ _ _ hA1
    have hS1' : (w1.setCell ⟨w.heap.size + 1, 40, none⟩ (.bool true)).heap[w.heap.size]? = some (.cells #[.int .i64 x.clock, .slice o1 n1 c1, .slice o2 n2 c2, .slice o3 n3 c3] 26 (0, 0)) := (Below.heap_setCell _ _ _ _ (by simp)).trans hS1
    obtain ⟨A1, hA1e⟩ : ∃ A1, A1 = A.setIfInBounds 40 (.bool true) := ⟨_, rfl⟩
    have hA1' : (w1.setCell ⟨w.heap.size + 1, 40, none⟩ (.bool true)).heap[w.heap.size + 1]? = some (.cells A1 54 (0, 0)) := by rw [hA1e]; exact set_40 hA1 _
    have HK1 := Lib.hid (show AskA A1 a ∧ ∀ h : 40 < A1.size, A1[40]'h = .bool true by rw [hA1e]; exact HK.out.set _)
    have hsz1 := HK1.out.1.size
    have HB1' := Lib.hid (show Below w.heap.size w (w1.setCell ⟨w.heap.size + 1, 40, none⟩ (.bool true)) from HB1.out.setCell (by simp) _)
    have CV1 := Lib.hid (vote_all [.int .i64 x.clock, .slice o1 n1 c1, .slice o2 n2 c2, .slice o3 n3 c3] A1 x a true 300 w (w1.setCell ⟨w.heap.size + 1, 40, none⟩ (.bool true)) (Sub.of_below HB1'.out) S0.out HK1.out.1 HK1.out.2 OK.out (by decide))
    clear hA1e hS1 hA1
    have HS1 := Lib.hid hS1'; have HA1 := Lib.hid hA1'
    clear hS1' hA1'
    go_upto_region 4 with fail
    refine wp_region_lit ?_
    refine wpList_load_row rfl 26 (.tmp 2) rfl w.heap.size rfl 26 #[.int .i64 x.clock, .slice o1 n1 c1, .slice o2 n2 c2, .slice o3 n3 c3] (0, 0) _ HS1.out Try.underlying26 rfl size26 ?_
    refine wpList_load_row rfl 54 (.tmp 3) rfl (w.heap.size + 1) rfl 54 A1 (0, 0) _ HA1.out Try.underlying54 rfl (by rw [hsz1]; exact size54) ?_
    go_wp2_with fail
    (with_reducible refine CV1.out.mono ?_)
    rintro e w2 ⟨cs2, t, n, er, he, hv1, hs2, hb2⟩
    rw [show Array.mk cs2 = cs2.toArray from rfl] at he
    have ltA1 : w.heap.size + 1 < (w1.setCell ⟨w.heap.size + 1, 40, none⟩ (.bool true)).heap.size := (Array.getElem?_eq_some_iff.1 HA1.out).1
    have T2 := Lib.hid (show rState (kill w2 (w.heap.size + 1)) cs2 t from hs2 _ (sub_kill (below_call HB1'.out hb2) (by omega)) fun k h1 h2 => kill_heap (by omega))
    have ho2 := hs2 w2 (Sub.of_below (below_call HB1'.out hb2)) fun _ _ _ => rfl
    clear hs2
    obtain ⟨_, _, _, rfl, _, ⟨t1, ta1, tb1, rfl, _⟩, ⟨t2, ta2, tb2, rfl, _⟩, ⟨t3, ta3, tb3, rfl, _⟩⟩ := ho2
    subst he
    have HV1 := Lib.hid hv1
    have HS2 := Lib.hid (heap_more (heap_keep HS1.out hb2) (.cells #[.int .i64 t.clock, .slice t1 ta1 tb1, .slice t2 ta2 tb2, .slice t3 ta3 tb3] 26))
    have HA2 := Lib.hid (heap_more (heap_keep HA1.out hb2) (.cells #[.int .i64 t.clock, .slice t1 ta1 tb1, .slice t2 ta2 tb2, .slice t3 ta3 tb3] 26))
    have HB2 := Lib.hid ((below_call HB1'.out hb2).alloc (below_call HB1'.out hb2).size (.cells #[.int .i64 t.clock, .slice t1 ta1 tb1, .slice t2 ta2 tb2, .slice t3 ta3 tb3] 26))
    have M2 := Lib.hid (fun (W : World) (hb : Below w2.heap.size w2 W) => kill_sub (g := w.heap.size + 1) (fun k h1 _ => hb.block k h1))
    have CV2 := Lib.hid (vote_all [.int .i64 t.clock, .slice t1 ta1 tb1, .slice t2 ta2 tb2, .slice t3 ta3 tb3] A1 t a true 301 (kill w2 (w.heap.size + 1)) (w2.alloc (.cells #[.int .i64 t.clock, .slice t1 ta1 tb1, .slice t2 ta2 tb2, .slice t3 ta3 tb3] 26)) (M2.out _ (below_alloc0' w2 _)) T2.out HK1.out.1 HK1.out.2 (hv1.ok OK.out) (by decide))
    clear hb2 hv1 CV1 e40 z40 ltA1
    go_upto_region 5 with fail
    refine wp_region_lit ?_
    refine wpList_load_row rfl 26 (.tmp 5) rfl w2.heap.size rfl 26 #[.int .i64 t.clock, .slice t1 ta1 tb1, .slice t2 ta2 tb2, .slice t3 ta3 tb3] (0, 0) _ (heap_alloc_new w2 _) Try.underlying26 rfl size26 ?_
    refine wpList_load_row rfl 54 (.tmp 3) rfl (w.heap.size + 1) rfl 54 A1 (0, 0) _ HA2.out Try.underlying54 rfl (by rw [hsz1]; exact size54) ?_
    go_wp2_with fail
    (with_reducible refine CV2.out.mono ?_)
    rintro e w3 ⟨cs3, t', m, f, he, hv2, hs3, hb3⟩
    obtain ⟨rfl, rfl, rfl⟩ := vote_law_two OK.out HV1.out hv2
    rw [show Array.mk cs3 = cs3.toArray from rfl] at he
    have hb23 : Below w2.heap.size w2 w3 := below_call (below_alloc0' w2 _) hb3
    have ltA2 : w.heap.size + 1 < w2.heap.size + 1 := by have := (Array.getElem?_eq_some_iff.1 HA2.out).1; simpa using this
    have U3 := Lib.hid (show rState (kill w3 (w.heap.size + 1)) cs3 t from hs3 _ (kill_kill hb23) fun k h1 h2 => kill_heap (by simp at h1; omega))
    have ho3 := hs3 w3 (M2.out _ hb23) fun _ _ _ => rfl
    clear hs3
    obtain ⟨_, _, _, rfl, _, ⟨u1, ua1, ub1, rfl, _⟩, ⟨u2, ua2, ub2, rfl, _⟩, ⟨u3, ua3, ub3, rfl, _⟩⟩ := ho3
    subst he
    have HV2 := Lib.hid hv2
    have HS3 := Lib.hid (heap_more (heap_keep HS2.out hb3) (.cells #[.int .i64 t.clock, .slice u1 ua1 ub1, .slice u2 ua2 ub2, .slice u3 ua3 ub3] 26))
    have HA3 := Lib.hid (heap_more (heap_keep HA2.out hb3) (.cells #[.int .i64 t.clock, .slice u1 ua1 ub1, .slice u2 ua2 ub2, .slice u3 ua3 ub3] 26))
    have hT3 : w3.heap[w2.heap.size]? = some (.cells #[.int .i64 t.clock, .slice t1 ta1 tb1, .slice t2 ta2 tb2, .slice t3 ta3 tb3] 26 (0, 0)) := heap_keep (heap_alloc_new w2 _) hb3
    have zT3 : w2.heap.size < w3.heap.size := (Array.getElem?_eq_some_iff.1 hT3).1
    have kT3 : ∀ j, World.cell? w3 ⟨w2.heap.size, j, none⟩ = World.cell? (w2.alloc (.cells #[.int .i64 t.clock, .slice t1 ta1 tb1, .slice t2 ta2 tb2, .slice t3 ta3 tb3] 26)) ⟨w2.heap.size, j, none⟩ := fun j => (cell_of_row _ _ j _ _ _ hT3).trans (cell_of_row _ _ j _ _ _ (heap_alloc_new w2 _)).symm
    have HB3 := Lib.hid ((below_call HB2.out hb3).alloc (below_call HB2.out hb3).size (.cells #[.int .i64 t.clock, .slice u1 ua1 ub1, .slice u2 ua2 ub2, .slice u3 ua3 ub3] 26))
    have M3 := Lib.hid (fun (W : World) (hb : ∀ k, k < w3.heap.size → k ≠ w.heap.size + 1 → W.heap[k]? = w3.heap[k]?) => kill_sub (g := w.heap.size + 1) hb)
    have CS1 := Lib.hid (c_t (state_any [.int .i64 t.clock, .slice t1 ta1 tb1, .slice t2 ta2 tb2, .slice t3 ta3 tb3] [.int .i64 t.clock, .slice u1 ua1 ub1, .slice u2 ua2 ub2, .slice u3 ua3 ub3] t t (w3.alloc (.cells #[.int .i64 t.clock, .slice u1 ua1 ub1, .slice u2 ua2 ub2, .slice u3 ua3 ub3] 26)) (T2.out.sub (M2.out _ (hb23.trans ((below_alloc0' w3 _).mono hb23.size)))) (U3.out.sub (M3.out _ fun k h1 _ => Below.heap_alloc _ _ _ h1))) rfl)
    have ltA : w.heap.size + 1 < w3.heap.size := Nat.lt_of_lt_of_le (Array.getElem?_eq_some_iff.1 HA2.out).1 hb3.size
    clear hb23 ltA2 hb3 hv2 CV2 hT3
    go_wp2_with fail
    (with_reducible refine CS1.out.mono ?_)
    rintro e w4 ⟨rfl, hb4⟩
    have hS4 := heap_keep HS3.out hb4
    have hA4 := heap_keep HA3.out hb4
    have hU4 := heap_keep (heap_alloc_new w3 (.cells #[.int .i64 t.clock, .slice u1 ua1 ub1, .slice u2 ua2 ub2, .slice u3 ua3 ub3] 26)) hb4
    obtain ⟨v40, e40⟩ := cell_40 hA4 hsz1
    have z40 : World.frozen? w4 ⟨w.heap.size + 1, 40, none⟩ = false := frozen_of_row _ _ _ _ _ hA4
    have HS4 := Lib.hid (show (w4.setCell ⟨w.heap.size + 1, 40, none⟩ (.bool false)).heap[w.heap.size]? = some (.cells #[.int .i64 x.clock, .slice o1 n1 c1, .slice o2 n2 c2, .slice o3 n3 c3] 26 (0, 0)) from (Below.heap_setCell _ _ _ _ (by simp)).trans hS4)
    have HU4 := Lib.hid (show (w4.setCell ⟨w.heap.size + 1, 40, none⟩ (.bool false)).heap[w3.heap.size]? = some (.cells #[.int .i64 t.clock, .slice u1 ua1 ub1, .slice u2 ua2 ub2, .slice u3 ua3 ub3] 26 (0, 0)) from (Below.heap_setCell _ _ _ _ (by simp only; omega)).trans hU4)
    obtain ⟨A2, hA2e⟩ : ∃ A2, A2 = A1.setIfInBounds 40 (.bool false) := ⟨_, rfl⟩
    have HA4 := Lib.hid (show (w4.setCell ⟨w.heap.size + 1, 40, none⟩ (.bool false)).heap[w.heap.size + 1]? = some (.cells A2 54 (0, 0)) by rw [hA2e]; exact set_40 hA4 _)
    have HK2 := Lib.hid (show AskA A2 a ∧ ∀ h : 40 < A2.size, A2[40]'h = .bool false by rw [hA2e]; exact HK1.out.1.set _)
    have hsz2 := HK2.out.1.size
    have HB4 := Lib.hid (show Below w.heap.size w (w4.setCell ⟨w.heap.size + 1, 40, none⟩ (.bool false)) from (below_call HB3.out hb4).setCell (by simp) _)
    have SU := Lib.hid (show Sub (kill w3 (w.heap.size + 1)) (w4.setCell ⟨w.heap.size + 1, 40, none⟩ (.bool false)) from M3.out _ fun k h1 h2 => (Below.heap_setCell _ _ _ _ h2).trans ((hb4.block k (by simp; omega)).trans (Below.heap_alloc _ _ _ h1)))
    have CV3 := Lib.hid (vote_all [.int .i64 t.clock, .slice u1 ua1 ub1, .slice u2 ua2 ub2, .slice u3 ua3 ub3] A2 t a false 301 (kill w3 (w.heap.size + 1)) (w4.setCell ⟨w.heap.size + 1, 40, none⟩ (.bool false)) SU.out U3.out HK2.out.1 HK2.out.2 (HV1.out.ok OK.out) (by decide))
    clear hA2e hS4 hA4 hU4 hb4 CS1 kT3 zT3
    go_upto_region 9 with fail
    refine wp_region_lit ?_
    refine wpList_load_row rfl 26 (.tmp 8) rfl w3.heap.size rfl 26 #[.int .i64 t.clock, .slice u1 ua1 ub1, .slice u2 ua2 ub2, .slice u3 ua3 ub3] (0, 0) _ HU4.out Try.underlying26 rfl size26 ?_
    refine wpList_load_row rfl 54 (.tmp 3) rfl (w.heap.size + 1) rfl 54 A2 (0, 0) _ HA4.out Try.underlying54 rfl (by rw [hsz2]; exact size54) ?_
    go_wp2_with fail
    (with_reducible refine CV3.out.mono ?_)
    rintro e w5 ⟨cs5, z, k, g, he, hv3, hs5, hb5⟩
    rw [show Array.mk cs5 = cs5.toArray from rfl] at he
    have law := vote_law OK.out HV1.out HV2.out hv3
    have ho5 := hs5 w5 (SU.out.trans (Sub.of_below hb5)) fun _ _ _ => rfl
    have V5 := Lib.hid ho5
    obtain ⟨_, _, _, rfl, _, ⟨v1, va1, vb1, rfl, _⟩, ⟨v2, va2, vb2, rfl, _⟩, ⟨v3, va3, vb3, rfl, _⟩⟩ := ho5
    subst he
    have hS5 := heap_keep HS4.out hb5
    have hA5 := heap_keep HA4.out hb5
    have HA5 := Lib.hid hA5
    have HS5 := Lib.hid (heap_more hS5 (.cells #[.int .i64 z.clock, .slice v1 va1 vb1, .slice v2 va2 vb2, .slice v3 va3 vb3] 26))
    have HV5 := Lib.hid (heap_alloc_new w5 (.cells #[.int .i64 z.clock, .slice v1 va1 vb1, .slice v2 va2 vb2, .slice v3 va3 vb3] 26))
    have zS5 : w.heap.size < w5.heap.size := (Array.getElem?_eq_some_iff.1 hS5).1
    have zA5 : w.heap.size + 1 < w5.heap.size := (Array.getElem?_eq_some_iff.1 hA5).1
    have kS5 : ∀ j, World.cell? w5 ⟨w.heap.size, j, none⟩ = World.cell? (w.alloc (.cells #[.int .i64 x.clock, .slice o1 n1 c1, .slice o2 n2 c2, .slice o3 n3 c3] 26)) ⟨w.heap.size, j, none⟩ := fun j => (cell_of_row _ _ j _ _ _ hS5).trans (cell_of_row _ _ j _ _ _ (heap_alloc_new w _)).symm
    have kA5 : ∀ j, World.cell? w5 ⟨w.heap.size + 1, j, none⟩ = World.cell? ((w.alloc (.cells #[.int .i64 x.clock, .slice o1 n1 c1, .slice o2 n2 c2, .slice o3 n3 c3] 26)).alloc (.cells A2 54)) ⟨w.heap.size + 1, j, none⟩ := fun j => (cell_of_row _ _ j _ _ _ hA5).trans (cell_of_row _ _ j _ _ _ (heap_alloc2_new w _ _)).symm
    have HB5 := Lib.hid ((below_call HB4.out hb5).alloc (below_call HB4.out hb5).size (.cells #[.int .i64 z.clock, .slice v1 va1 vb1, .slice v2 va2 vb2, .slice v3 va3 vb3] 26))
    have V5' := Lib.hid (V5.out.later (below_alloc0' w5 (.cells #[.int .i64 z.clock, .slice v1 va1 vb1, .slice v2 va2 vb2, .slice v3 va3 vb3] 26)))
    have LAW := Lib.hid law.2.2.2
    clear law hb5 hv3 hs5 CV3 hS5 hA5 e40 z40 ltA
    rcases LAW.out with ⟨hne, rfl, rfl⟩ | ⟨rfl, rfl, rfl, hle, i, y0, hi, hid, hback⟩
    · have b1 : (g == 0) = false := by simpa using hne
      have d1 : decide (g = 0) = false := decide_eq_false hne
      clear LAW
      go_wp2_with fail
      (with_reducible refine (CF.out _).mono ?_)
      rintro e w6 ⟨rfl, hb6⟩
      have hS6 := heap_keep HS5.out hb6
      have hV6 := heap_keep HV5.out hb6
      have kS6 : ∀ j, World.cell? w6 ⟨w.heap.size, j, none⟩ = World.cell? (w.alloc (.cells #[.int .i64 z.clock, .slice o1 n1 c1, .slice o2 n2 c2, .slice o3 n3 c3] 26)) ⟨w.heap.size, j, none⟩ := fun j => (cell_of_row _ _ j _ _ _ hS6).trans (cell_of_row _ _ j _ _ _ (heap_alloc_new w _)).symm
      have kV6 : ∀ j, World.cell? w6 ⟨w5.heap.size, j, none⟩ = World.cell? (w5.alloc (.cells #[.int .i64 z.clock, .slice v1 va1 vb1, .slice v2 va2 vb2, .slice v3 va3 vb3] 26)) ⟨w5.heap.size, j, none⟩ := fun j => (cell_of_row _ _ j _ _ _ hV6).trans (cell_of_row _ _ j _ _ _ (heap_alloc_new w5 _)).symm
      have HB6 := Lib.hid (below_call HB5.out hb6)
      have CS2 := Lib.hid (c_t (state_any [.int .i64 z.clock, .slice v1 va1 vb1, .slice v2 va2 vb2, .slice v3 va3 vb3] [.int .i64 z.clock, .slice o1 n1 c1, .slice o2 n2 c2, .slice o3 n3 c3] z z w6 (V5'.out.later hb6) (S0.out.later HB6.out)) rfl)
      clear hb6 hS6 hV6
      go_wp2_with fail
      (with_reducible refine CS2.out.mono ?_)
      rintro e w7 ⟨rfl, hb7⟩
      have HB7 := Lib.hid (below_call HB6.out hb7)
      clear hb7
      go_wp2_with fail
      go_ret
      exact ⟨rfl, HB7.out⟩
    · have HI := Lib.hid hi; have HID := Lib.hid hid; have HBK := Lib.hid hback; have HLE := Lib.hid hle
      have a38 := HK2.out.1.a38
      have CR := Lib.hid (fun (W : World) (hb : Below w.heap.size w W) => refFind_at [.int .i64 x.clock, .slice o1 n1 c1, .slice o2 n2 c2, .slice o3 n3 c3] x a.poll w W hb S0.out)
      clear LAW hi hid hback hle
      go_wp2_with fail
      (with_reducible refine (CR.out _ HB5.out).mono ?_)
      rintro e w6 ⟨cs6, f, y, he, hf, hy, hb6⟩
      obtain ⟨rfl, rfl⟩ := hf.is OK.out.rise HI.out HID.out
      rw [show Array.mk cs6 = cs6.toArray from rfl] at he
      obtain ⟨qq, qs, qv, rfl, _, _, _, _, _, ⟨qm, qy, qa, qp, rfl, _, _, _, _, _, ⟨om, nm, cm, rfl, _⟩, ⟨oy, ny, cy, rfl, _⟩, ⟨oa, na, ca, rfl, _⟩, ⟨op, np, cp, rfl, _⟩⟩, ⟨os, ns', cs', rfl, _⟩, hvo⟩ := hy
      obtain ⟨ov, nv, cv, rfl, lv, nvc, kv, RV⟩ := hvo.open
      have hM : nv < 9223372036854775808 := by (unfold maxLen at kv; omega)
      have LV := Lib.hid lv; have SV := Lib.hid RV
      clear hf hvo lv RV nvc kv
      simp only [List.cons_append, List.nil_append] at he
      subst he
      have hS6 := heap_keep HS5.out hb6
      have hV6 := heap_keep HV5.out hb6
      have hA6 : w6.heap[w.heap.size + 1]? = some (.cells A2 54 (0, 0)) := heap_keep (heap_more (show w5.heap[w.heap.size + 1]? = some (.cells A2 54 (0, 0)) from HA5.out) _) hb6
      have zA6 : w.heap.size + 1 < w6.heap.size := (Array.getElem?_eq_some_iff.1 hA6).1
      have kA6 : ∀ j, World.cell? w6 ⟨w.heap.size + 1, j, none⟩ = World.cell? ((w.alloc (.cells #[.int .i64 x.clock, .slice o1 n1 c1, .slice o2 n2 c2, .slice o3 n3 c3] 26)).alloc (.cells A2 54)) ⟨w.heap.size + 1, j, none⟩ := fun j => (cell_of_row _ _ j _ _ _ hA6).trans (cell_of_row _ _ j _ _ _ (heap_alloc2_new w _ _)).symm
      have HB6 := Lib.hid (below_call HB5.out hb6)
      have HVV := Lib.hid (V5'.out.later hb6)
      have HS6 := Lib.hid hS6; have HV6 := Lib.hid hV6
      have a1 := HK2.out.1.a1; have a39 := HK2.out.1.a39
      clear hb6 hS6 hV6 hA6 kS5 kA5 zS5 zA5 a38
      go_wp2_with fail
      go_loopw [83, 16] (fun kk cc wr => ∃ (q : Nat) (c : Bool), kk = .int .i64 q ∧ cc = .bool c ∧ q ≤ nv ∧ (∀ j, World.cell? wr ⟨w.heap.size + 1, j, none⟩ = World.cell? ((w.alloc (.cells #[.int .i64 x.clock, .slice o1 n1 c1, .slice o2 n2 c2, .slice o3 n3 c3] 26)).alloc (.cells A2 54)) ⟨w.heap.size + 1, j, none⟩) ∧ w6.heap.size < wr.heap.size ∧ Hid (Below w.heap.size w wr ∧ Below w6.heap.size w6 wr ∧ c = saidIn (y.votes.take q) a.caller a.slot)) (fun kk _ _ => nv - (intOf kk).toNat)
      case atStart => exact ⟨0, false, rfl, rfl, Nat.zero_le _, fun j => (World.cell?_alloc_lt _ _ _ zA6).trans (kA6 j), by simp, HB6.out.alloc HB6.out.size _, below_alloc0' w6 _, rfl⟩
      case round =>
        obtain ⟨q, c, rfl, rfl, hq, kA, hz, I⟩ := hrel
        obtain ⟨wl, rfl⟩ : ∃ x, x = wr := ⟨_, rfl⟩
        clear kA6
        have hlA : w.heap.size + 1 < wl.heap.size := by omega
        by_cases hlt : q < nv
        · have hlt' : (q : Int) < (nv : Int) := by omega
          obtain ⟨v, av, csv, hx, rfl, q1, ⟨rfl, _, _⟩, q0, q2⟩ := SV.out.elem I.out.1 q hlt
          have e0 := q0 (by decide)
          have e1 := q2 1 (by decide) (by decide)
          simp only [List.getElem?_cons_zero, List.getElem?_cons_succ] at e0 e1
          have SN := Lib.hid (saidIn_snoc y.votes q v a.caller a.slot hx)
          have HBo := Lib.hid (fun (o : Obj) => And.intro (I.out.1.alloc (by omega) o) (I.out.2.1.alloc (by omega) o))
          have HKA := Lib.hid (fun (o : Obj) j => (World.cell?_alloc_lt wl o ⟨w.heap.size + 1, j, none⟩ hlA).trans (kA j))
          clear q0 q1 q2 hx
          cases c with
          | true =>
            have I2 := Lib.hid (show true = saidIn (y.votes.take (q + 1)) a.caller a.slot by rw [SN.out, ← I.out.2.2]; rfl)
            go_wp2_with fail
            go_roundw
            case measure => simp [intOf]; omega
            case rel => exact ⟨q + 1, true, by go_num, by trivial, by omega, HKA.out _, by simp; omega, (HBo.out _).1, (HBo.out _).2, I2.out⟩
          | false =>
            by_cases hu : v.user = a.caller
            · have b1 : (v.user == a.caller) = true := by simpa using hu
              have d1 := decide_eq_true hu
              by_cases hs : v.slot = a.slot
              · have b2 : (v.slot == a.slot) = true := by simpa using hs
                have d2 := decide_eq_true hs
                have I2 := Lib.hid (show true = saidIn (y.votes.take (q + 1)) a.caller a.slot by rw [SN.out]; simp [hu, hs])
                clear hu hs
                go_wp2_with fail
                go_roundw
                case measure => simp [intOf]; omega
                case rel => exact ⟨q + 1, true, by go_num, by first | rfl | trivial, by omega, HKA.out _, by simp; omega, (HBo.out _).1, (HBo.out _).2, I2.out⟩
              · have b2 : (v.slot == a.slot) = false := by simpa using hs
                have d2 := decide_eq_false hs
                have I2 := Lib.hid (show false = saidIn (y.votes.take (q + 1)) a.caller a.slot by rw [SN.out, ← I.out.2.2]; simp [hs])
                clear hu hs
                go_wp2_with fail
                go_roundw
                case measure => simp [intOf]; omega
                case rel => exact ⟨q + 1, false, by go_num, by first | rfl | trivial, by omega, HKA.out _, by simp; omega, (HBo.out _).1, (HBo.out _).2, I2.out⟩
            · have b1 : (v.user == a.caller) = false := by simpa using hu
              have d1 := decide_eq_false hu
              have I2 := Lib.hid (show false = saidIn (y.votes.take (q + 1)) a.caller a.slot by rw [SN.out, ← I.out.2.2]; simp [hu])
              clear hu
              go_wp2_with fail
              go_roundw
              case measure => simp [intOf]; omega
              case rel => exact ⟨q + 1, false, by go_num, by first | rfl | trivial, by omega, HKA.out _, by simp; omega, (HBo.out _).1, (HBo.out _).2, I2.out⟩
        · obtain rfl : nv = q := by omega
          have hw1 : (IntKind.u64).wrap (((k + 1 : Nat) : Int) - 1) = (k : Int) := by
            have := HLE.out
            rw [IntKind.wrap_u64]; omega
          have hw2 : (IntKind.u64).wrap ((k : Int) + 1 - 1) = (k : Int) := by
            have := HLE.out
            rw [IntKind.wrap_u64]; omega
          have hw3 : (IntKind.u64).wrap (k : Int) = (k : Int) := by
            have := HLE.out
            rw [IntKind.wrap_u64]; omega
          have I2 := Lib.hid (show c = saidIn y.votes a.caller a.slot by rw [I.out.2.2, List.take_of_length_le (by rw [LV.out]; exact Nat.le_refl _)])
          have ltv : w5.heap.size < w6.heap.size := (Array.getElem?_eq_some_iff.1 HV6.out).1
          have hSl := (I.out.2.1.block _ (show w.heap.size < w6.heap.size by omega)).trans HS6.out
          have hVl := (I.out.2.1.block _ ltv).trans HV6.out
          have HVl := Lib.hid (HVV.out.later I.out.2.1)
          cases c with
          | true =>
            clear hSl hVl
            go_wp2_with fail
            (with_reducible refine (CF.out _).mono ?_)
            rintro e w7 ⟨rfl, hb7⟩
            have HB7 := Lib.hid (below_call I.out.1 hb7)
            clear hb7
            go_wp2_with fail
            go_ret
            exact ⟨rfl, HB7.out⟩
          | false =>
            obtain rfl : z = x := HBK.out (saidIn_no I2.out.symm)
            go_wp2_with fail
            (with_reducible refine (CF.out _).mono ?_)
            rintro e w7 ⟨rfl, hb7⟩
            have hS7 := heap_keep hSl hb7
            have hV7 := heap_keep hVl hb7
            have kS7 : ∀ j, World.cell? w7 ⟨w.heap.size, j, none⟩ = World.cell? (w.alloc (.cells #[.int .i64 z.clock, .slice o1 n1 c1, .slice o2 n2 c2, .slice o3 n3 c3] 26)) ⟨w.heap.size, j, none⟩ := fun j => (cell_of_row _ _ j _ _ _ hS7).trans (cell_of_row _ _ j _ _ _ (heap_alloc_new w _)).symm
            have kV7 : ∀ j, World.cell? w7 ⟨w5.heap.size, j, none⟩ = World.cell? (w5.alloc (.cells #[.int .i64 z.clock, .slice v1 va1 vb1, .slice v2 va2 vb2, .slice v3 va3 vb3] 26)) ⟨w5.heap.size, j, none⟩ := fun j => (cell_of_row _ _ j _ _ _ hV7).trans (cell_of_row _ _ j _ _ _ (heap_alloc_new w5 _)).symm
            have HB7 := Lib.hid (below_call I.out.1 hb7)
            have CS3 := Lib.hid (c_t (state_any [.int .i64 z.clock, .slice v1 va1 vb1, .slice v2 va2 vb2, .slice v3 va3 vb3] [.int .i64 z.clock, .slice o1 n1 c1, .slice o2 n2 c2, .slice o3 n3 c3] z z w7 (HVl.out.later hb7) (S0.out.later HB7.out)) rfl)
            clear hb7 hS7 hV7 hSl hVl
            go_wp2_with fail
            (with_reducible refine CS3.out.mono ?_)
            rintro e w8 ⟨rfl, hb8⟩
            have HB8 := Lib.hid (below_call HB7.out hb8)
            clear hb8
            go_wp2_with fail
            go_ret
            exact ⟨rfl, HB8.out⟩
end Go.Proofs.Ytcleicjgeflbnaa
