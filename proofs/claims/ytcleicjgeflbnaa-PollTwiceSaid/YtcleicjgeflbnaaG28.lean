/- The walk of Great of law 24: it answers; where it answers false the state is as small as is gone through. No condition but that the arguments read. -/
import Derived.Test.YtcleicjgeflbnaaG27
namespace Go.Proofs.Ytcleicjgeflbnaa
open Go.RowKit Go.ChangeShapes Go.WideShapes Go.Deep

set_option maxHeartbeats 8000000 in
theorem great24_any (cs ds : List Value) (x : StateD) (a : AskD) (w : World) (h : rState w cs x) (ha : rAsk w ds a) :
    Calls Try.prog 5 #[.agg cs.toArray, .agg ds.toArray] w fun e w' => ∃ b, e = .returned (.bool b) ∧ (b = false → x.small ∧ x.small20 ∧ x.rises24 ∧ x.musts) ∧ Below w.heap.size w w' := by
  have SW := Lib.hid h; have SA := Lib.hid ha
  obtain ⟨o4, n4, c4, o5, n5, c5, hask, a31, a32⟩ := ha.cells
  have CA := Lib.hid (fun (W : World) (hb : Below w.heap.size w W) => greatAsk_any _ a W (SA.out.later hb))
  generalize hA : ds.toArray = A at hask a31 a32 CA ⊢
  have hs := hask.size
  have SZ := Lib.hid (show (Try.prog.info? 54).map (·.size) = some A.size by rw [hs]; exact size54)
  clear hA ha hask
  obtain ⟨u, vp, d, rfl, _, ⟨o1, n1, c1, rfl, _⟩, ⟨o2, n2, c2, rfl, _⟩, ⟨o3, n3, c3, rfl, _⟩⟩ := h
  have HB := Lib.hid (show Below w.heap.size w ((w.alloc (.cells #[.int .i64 x.clock, .slice o1 n1 c1, .slice o2 n2 c2, .slice o3 n3 c3] 26)).alloc (.cells A 54)) from ((Below.refl _ _).alloc (Nat.le_refl _) _).alloc (by simp) _)
  by_cases q1 : x.small
  · have C1 := Lib.hid (fun (W : World) (hb : Below w.heap.size w W) => n_t (greatState_any _ x W (SW.out.later hb)) q1)
    have Q1 := Lib.hid q1
    clear q1
    by_cases q2 : a.small
    · have C2 := Lib.hid (fun (W : World) (hb : Below w.heap.size w W) => n_t (CA.out W hb) q2)
      clear q2
      by_cases q3 : x.small20
      · have C3 := Lib.hid (fun (W : World) (hb : Below w.heap.size w W) => n_t (great20_any _ x W (SW.out.later hb)) q3)
        have Q3 := Lib.hid q3
        clear q3
        by_cases q4 : x.rises24
        · have C4 := Lib.hid (fun (W : World) (hb : Below w.heap.size w W) => c_t (rises24_any _ x W (SW.out.later hb)) q4)
          have Q4 := Lib.hid q4
          clear q4
          by_cases q5 : x.musts
          · have C5 := Lib.hid (fun (W : World) (hb : Below w.heap.size w W) => c_t (musts_any _ x W (SW.out.later hb)) q5)
            have Q5 := Lib.hid q5
            clear q5
            go_enter Try.func5, Try.ntmps5
            go_wp2_with fail
            (with_reducible refine (C1.out _ HB.out).mono ?_)
            rintro e w1 ⟨rfl, hb1⟩
            have kA1 : ∀ j, World.cell? w1 ⟨w.heap.size, j, none⟩ = World.cell? (w.alloc (.cells #[.int .i64 x.clock, .slice o1 n1 c1, .slice o2 n2 c2, .slice o3 n3 c3] 26)) ⟨w.heap.size, j, none⟩ := fun j => (hb1.cell (by simp; omega)).trans (World.cell?_alloc_lt _ _ _ (by simp))
            have kB1 : ∀ j, World.cell? w1 ⟨w.heap.size + 1, j, none⟩ = World.cell? ((w.alloc (.cells #[.int .i64 x.clock, .slice o1 n1 c1, .slice o2 n2 c2, .slice o3 n3 c3] 26)).alloc (.cells A 54)) ⟨w.heap.size + 1, j, none⟩ := fun j => (hb1.cell (by simp)).trans rfl
            have hz1 : w.heap.size + 1 < w1.heap.size := Nat.lt_of_lt_of_le (by simp) hb1.size
            have HB1 := Lib.hid (below_call HB.out hb1)
            have HX1 := Lib.hid ((hb1.block (w.heap.size + 1) (by simp)).trans (heap_alloc2_new w _ _))
            clear hb1
            have HA1 := Lib.hid (show w1.heap[w.heap.size + 1]? = some (.cells A 54 (0, 0)) from HX1.out)
            dsimp only
            go_step
            go_step
            go_step
            go_step
            refine wpList_load_g (by simp [Region.wanted, yielded]) 54 (.tmp 3) (by rfl) (w.heap.size + 1) (by rfl) 54 A (0, 0) _ HA1.out Try.underlying54 (by rfl) SZ.out ?_
            clear HX1 HA1
            go_wp2_with fail
            (with_reducible refine (C2.out _ HB1.out).mono ?_)
            rintro e w2 ⟨rfl, hb2⟩
            have kA2 : ∀ j, World.cell? w2 ⟨w.heap.size, j, none⟩ = World.cell? (w.alloc (.cells #[.int .i64 x.clock, .slice o1 n1 c1, .slice o2 n2 c2, .slice o3 n3 c3] 26)) ⟨w.heap.size, j, none⟩ := fun j => (hb2.cell (by show w.heap.size < _; omega)).trans (kA1 j)
            have kB2 : ∀ j, World.cell? w2 ⟨w.heap.size + 1, j, none⟩ = World.cell? ((w.alloc (.cells #[.int .i64 x.clock, .slice o1 n1 c1, .slice o2 n2 c2, .slice o3 n3 c3] 26)).alloc (.cells A 54)) ⟨w.heap.size + 1, j, none⟩ := fun j => (hb2.cell (by show w.heap.size + 1 < _; omega)).trans (kB1 j)
            have hz2 : w.heap.size + 1 < w2.heap.size := Nat.lt_of_lt_of_le hz1 hb2.size
            have HB2 := Lib.hid (below_call HB1.out hb2)
            clear hb2 kA1 kB1 hz1
            go_wp2_with fail
            (with_reducible refine (C3.out _ HB2.out).mono ?_)
            rintro e w3 ⟨rfl, hb3⟩
            have kA3 : ∀ j, World.cell? w3 ⟨w.heap.size, j, none⟩ = World.cell? (w.alloc (.cells #[.int .i64 x.clock, .slice o1 n1 c1, .slice o2 n2 c2, .slice o3 n3 c3] 26)) ⟨w.heap.size, j, none⟩ := fun j => (hb3.cell (by show w.heap.size < _; omega)).trans (kA2 j)
            have kB3 : ∀ j, World.cell? w3 ⟨w.heap.size + 1, j, none⟩ = World.cell? ((w.alloc (.cells #[.int .i64 x.clock, .slice o1 n1 c1, .slice o2 n2 c2, .slice o3 n3 c3] 26)).alloc (.cells A 54)) ⟨w.heap.size + 1, j, none⟩ := fun j => (hb3.cell (by show w.heap.size + 1 < _; omega)).trans (kB2 j)
            have hz3 : w.heap.size + 1 < w3.heap.size := Nat.lt_of_lt_of_le hz2 hb3.size
            have HB3 := Lib.hid (below_call HB2.out hb3)
            clear hb3 kA2 kB2 hz2
            go_wp2_with fail
            (with_reducible refine (C4.out _ HB3.out).mono ?_)
            rintro e w4 ⟨rfl, hb4⟩
            have kA4 : ∀ j, World.cell? w4 ⟨w.heap.size, j, none⟩ = World.cell? (w.alloc (.cells #[.int .i64 x.clock, .slice o1 n1 c1, .slice o2 n2 c2, .slice o3 n3 c3] 26)) ⟨w.heap.size, j, none⟩ := fun j => (hb4.cell (by show w.heap.size < _; omega)).trans (kA3 j)
            have kB4 : ∀ j, World.cell? w4 ⟨w.heap.size + 1, j, none⟩ = World.cell? ((w.alloc (.cells #[.int .i64 x.clock, .slice o1 n1 c1, .slice o2 n2 c2, .slice o3 n3 c3] 26)).alloc (.cells A 54)) ⟨w.heap.size + 1, j, none⟩ := fun j => (hb4.cell (by show w.heap.size + 1 < _; omega)).trans (kB3 j)
            have hz4 : w.heap.size + 1 < w4.heap.size := Nat.lt_of_lt_of_le hz3 hb4.size
            have HB4 := Lib.hid (below_call HB3.out hb4)
            clear hb4 kA3 kB3 hz3
            go_wp2_with fail
            (with_reducible refine (C5.out _ HB4.out).mono ?_)
            rintro e w5 ⟨rfl, hb5⟩
            have kA5 : ∀ j, World.cell? w5 ⟨w.heap.size, j, none⟩ = World.cell? (w.alloc (.cells #[.int .i64 x.clock, .slice o1 n1 c1, .slice o2 n2 c2, .slice o3 n3 c3] 26)) ⟨w.heap.size, j, none⟩ := fun j => (hb5.cell (by show w.heap.size < _; omega)).trans (kA4 j)
            have kB5 : ∀ j, World.cell? w5 ⟨w.heap.size + 1, j, none⟩ = World.cell? ((w.alloc (.cells #[.int .i64 x.clock, .slice o1 n1 c1, .slice o2 n2 c2, .slice o3 n3 c3] 26)).alloc (.cells A 54)) ⟨w.heap.size + 1, j, none⟩ := fun j => (hb5.cell (by show w.heap.size + 1 < _; omega)).trans (kB4 j)
            have hz5 : w.heap.size + 1 < w5.heap.size := Nat.lt_of_lt_of_le hz4 hb5.size
            have HB5 := Lib.hid (below_call HB4.out hb5)
            clear hb5 kA4 kB4 hz4
            by_cases q6 : n4 ≤ 6
            · have g6 : ¬ (6 : Int) < (n4 : Int) := by omega
              have d6 := decide_eq_false g6
              by_cases q7 : n5 ≤ 5
              · have g7 : ¬ (5 : Int) < (n5 : Int) := by omega
                have d7 := decide_eq_false g7
                go_wp2_with fail
                go_ret
                exact ⟨_, rfl, fun _ => ⟨Q1.out, Q3.out, Q4.out, Q5.out⟩, HB5.out⟩
              · have g7 : (5 : Int) < (n5 : Int) := by omega
                have d7 := decide_eq_true g7
                go_wp2_with fail
                go_ret
                exact ⟨_, rfl, fun _ => ⟨Q1.out, Q3.out, Q4.out, Q5.out⟩, HB5.out⟩
            · have g6 : (6 : Int) < (n4 : Int) := by omega
              have d6 := decide_eq_true g6
              go_wp2_with fail
              go_ret
              exact ⟨_, rfl, fun _ => ⟨Q1.out, Q3.out, Q4.out, Q5.out⟩, HB5.out⟩
          · have C5 := Lib.hid (fun (W : World) (hb : Below w.heap.size w W) => c_f (musts_any _ x W (SW.out.later hb)) q5)
            clear q5
            go_enter Try.func5, Try.ntmps5
            go_wp2_with fail
            (with_reducible refine (C1.out _ HB.out).mono ?_)
            rintro e w1 ⟨rfl, hb1⟩
            have kA1 : ∀ j, World.cell? w1 ⟨w.heap.size, j, none⟩ = World.cell? (w.alloc (.cells #[.int .i64 x.clock, .slice o1 n1 c1, .slice o2 n2 c2, .slice o3 n3 c3] 26)) ⟨w.heap.size, j, none⟩ := fun j => (hb1.cell (by simp; omega)).trans (World.cell?_alloc_lt _ _ _ (by simp))
            have kB1 : ∀ j, World.cell? w1 ⟨w.heap.size + 1, j, none⟩ = World.cell? ((w.alloc (.cells #[.int .i64 x.clock, .slice o1 n1 c1, .slice o2 n2 c2, .slice o3 n3 c3] 26)).alloc (.cells A 54)) ⟨w.heap.size + 1, j, none⟩ := fun j => (hb1.cell (by simp)).trans rfl
            have hz1 : w.heap.size + 1 < w1.heap.size := Nat.lt_of_lt_of_le (by simp) hb1.size
            have HB1 := Lib.hid (below_call HB.out hb1)
            have HX1 := Lib.hid ((hb1.block (w.heap.size + 1) (by simp)).trans (heap_alloc2_new w _ _))
            clear hb1
            have HA1 := Lib.hid (show w1.heap[w.heap.size + 1]? = some (.cells A 54 (0, 0)) from HX1.out)
            dsimp only
            go_step
            go_step
            go_step
            go_step
            refine wpList_load_g (by simp [Region.wanted, yielded]) 54 (.tmp 3) (by rfl) (w.heap.size + 1) (by rfl) 54 A (0, 0) _ HA1.out Try.underlying54 (by rfl) SZ.out ?_
            clear HX1 HA1
            go_wp2_with fail
            (with_reducible refine (C2.out _ HB1.out).mono ?_)
            rintro e w2 ⟨rfl, hb2⟩
            have kA2 : ∀ j, World.cell? w2 ⟨w.heap.size, j, none⟩ = World.cell? (w.alloc (.cells #[.int .i64 x.clock, .slice o1 n1 c1, .slice o2 n2 c2, .slice o3 n3 c3] 26)) ⟨w.heap.size, j, none⟩ := fun j => (hb2.cell (by show w.heap.size < _; omega)).trans (kA1 j)
            have kB2 : ∀ j, World.cell? w2 ⟨w.heap.size + 1, j, none⟩ = World.cell? ((w.alloc (.cells #[.int .i64 x.clock, .slice o1 n1 c1, .slice o2 n2 c2, .slice o3 n3 c3] 26)).alloc (.cells A 54)) ⟨w.heap.size + 1, j, none⟩ := fun j => (hb2.cell (by show w.heap.size + 1 < _; omega)).trans (kB1 j)
            have hz2 : w.heap.size + 1 < w2.heap.size := Nat.lt_of_lt_of_le hz1 hb2.size
            have HB2 := Lib.hid (below_call HB1.out hb2)
            clear hb2 kA1 kB1 hz1
            go_wp2_with fail
            (with_reducible refine (C3.out _ HB2.out).mono ?_)
            rintro e w3 ⟨rfl, hb3⟩
            have kA3 : ∀ j, World.cell? w3 ⟨w.heap.size, j, none⟩ = World.cell? (w.alloc (.cells #[.int .i64 x.clock, .slice o1 n1 c1, .slice o2 n2 c2, .slice o3 n3 c3] 26)) ⟨w.heap.size, j, none⟩ := fun j => (hb3.cell (by show w.heap.size < _; omega)).trans (kA2 j)
            have kB3 : ∀ j, World.cell? w3 ⟨w.heap.size + 1, j, none⟩ = World.cell? ((w.alloc (.cells #[.int .i64 x.clock, .slice o1 n1 c1, .slice o2 n2 c2, .slice o3 n3 c3] 26)).alloc (.cells A 54)) ⟨w.heap.size + 1, j, none⟩ := fun j => (hb3.cell (by show w.heap.size + 1 < _; omega)).trans (kB2 j)
            have hz3 : w.heap.size + 1 < w3.heap.size := Nat.lt_of_lt_of_le hz2 hb3.size
            have HB3 := Lib.hid (below_call HB2.out hb3)
            clear hb3 kA2 kB2 hz2
            go_wp2_with fail
            (with_reducible refine (C4.out _ HB3.out).mono ?_)
            rintro e w4 ⟨rfl, hb4⟩
            have kA4 : ∀ j, World.cell? w4 ⟨w.heap.size, j, none⟩ = World.cell? (w.alloc (.cells #[.int .i64 x.clock, .slice o1 n1 c1, .slice o2 n2 c2, .slice o3 n3 c3] 26)) ⟨w.heap.size, j, none⟩ := fun j => (hb4.cell (by show w.heap.size < _; omega)).trans (kA3 j)
            have kB4 : ∀ j, World.cell? w4 ⟨w.heap.size + 1, j, none⟩ = World.cell? ((w.alloc (.cells #[.int .i64 x.clock, .slice o1 n1 c1, .slice o2 n2 c2, .slice o3 n3 c3] 26)).alloc (.cells A 54)) ⟨w.heap.size + 1, j, none⟩ := fun j => (hb4.cell (by show w.heap.size + 1 < _; omega)).trans (kB3 j)
            have hz4 : w.heap.size + 1 < w4.heap.size := Nat.lt_of_lt_of_le hz3 hb4.size
            have HB4 := Lib.hid (below_call HB3.out hb4)
            clear hb4 kA3 kB3 hz3
            go_wp2_with fail
            (with_reducible refine (C5.out _ HB4.out).mono ?_)
            rintro e w5 ⟨rfl, hb5⟩
            have kA5 : ∀ j, World.cell? w5 ⟨w.heap.size, j, none⟩ = World.cell? (w.alloc (.cells #[.int .i64 x.clock, .slice o1 n1 c1, .slice o2 n2 c2, .slice o3 n3 c3] 26)) ⟨w.heap.size, j, none⟩ := fun j => (hb5.cell (by show w.heap.size < _; omega)).trans (kA4 j)
            have kB5 : ∀ j, World.cell? w5 ⟨w.heap.size + 1, j, none⟩ = World.cell? ((w.alloc (.cells #[.int .i64 x.clock, .slice o1 n1 c1, .slice o2 n2 c2, .slice o3 n3 c3] 26)).alloc (.cells A 54)) ⟨w.heap.size + 1, j, none⟩ := fun j => (hb5.cell (by show w.heap.size + 1 < _; omega)).trans (kB4 j)
            have hz5 : w.heap.size + 1 < w5.heap.size := Nat.lt_of_lt_of_le hz4 hb5.size
            have HB5 := Lib.hid (below_call HB4.out hb5)
            clear hb5 kA4 kB4 hz4
            go_wp2_with fail
            go_ret
            exact ⟨_, rfl, by simp, HB5.out⟩
        · have C4 := Lib.hid (fun (W : World) (hb : Below w.heap.size w W) => c_f (rises24_any _ x W (SW.out.later hb)) q4)
          clear q4
          go_enter Try.func5, Try.ntmps5
          go_wp2_with fail
          (with_reducible refine (C1.out _ HB.out).mono ?_)
          rintro e w1 ⟨rfl, hb1⟩
          have kA1 : ∀ j, World.cell? w1 ⟨w.heap.size, j, none⟩ = World.cell? (w.alloc (.cells #[.int .i64 x.clock, .slice o1 n1 c1, .slice o2 n2 c2, .slice o3 n3 c3] 26)) ⟨w.heap.size, j, none⟩ := fun j => (hb1.cell (by simp; omega)).trans (World.cell?_alloc_lt _ _ _ (by simp))
          have kB1 : ∀ j, World.cell? w1 ⟨w.heap.size + 1, j, none⟩ = World.cell? ((w.alloc (.cells #[.int .i64 x.clock, .slice o1 n1 c1, .slice o2 n2 c2, .slice o3 n3 c3] 26)).alloc (.cells A 54)) ⟨w.heap.size + 1, j, none⟩ := fun j => (hb1.cell (by simp)).trans rfl
          have hz1 : w.heap.size + 1 < w1.heap.size := Nat.lt_of_lt_of_le (by simp) hb1.size
          have HB1 := Lib.hid (below_call HB.out hb1)
          have HX1 := Lib.hid ((hb1.block (w.heap.size + 1) (by simp)).trans (heap_alloc2_new w _ _))
          clear hb1
          have HA1 := Lib.hid (show w1.heap[w.heap.size + 1]? = some (.cells A 54 (0, 0)) from HX1.out)
          dsimp only
          go_step
          go_step
          go_step
          go_step
          refine wpList_load_g (by simp [Region.wanted, yielded]) 54 (.tmp 3) (by rfl) (w.heap.size + 1) (by rfl) 54 A (0, 0) _ HA1.out Try.underlying54 (by rfl) SZ.out ?_
          clear HX1 HA1
          go_wp2_with fail
          (with_reducible refine (C2.out _ HB1.out).mono ?_)
          rintro e w2 ⟨rfl, hb2⟩
          have kA2 : ∀ j, World.cell? w2 ⟨w.heap.size, j, none⟩ = World.cell? (w.alloc (.cells #[.int .i64 x.clock, .slice o1 n1 c1, .slice o2 n2 c2, .slice o3 n3 c3] 26)) ⟨w.heap.size, j, none⟩ := fun j => (hb2.cell (by show w.heap.size < _; omega)).trans (kA1 j)
          have kB2 : ∀ j, World.cell? w2 ⟨w.heap.size + 1, j, none⟩ = World.cell? ((w.alloc (.cells #[.int .i64 x.clock, .slice o1 n1 c1, .slice o2 n2 c2, .slice o3 n3 c3] 26)).alloc (.cells A 54)) ⟨w.heap.size + 1, j, none⟩ := fun j => (hb2.cell (by show w.heap.size + 1 < _; omega)).trans (kB1 j)
          have hz2 : w.heap.size + 1 < w2.heap.size := Nat.lt_of_lt_of_le hz1 hb2.size
          have HB2 := Lib.hid (below_call HB1.out hb2)
          clear hb2 kA1 kB1 hz1
          go_wp2_with fail
          (with_reducible refine (C3.out _ HB2.out).mono ?_)
          rintro e w3 ⟨rfl, hb3⟩
          have kA3 : ∀ j, World.cell? w3 ⟨w.heap.size, j, none⟩ = World.cell? (w.alloc (.cells #[.int .i64 x.clock, .slice o1 n1 c1, .slice o2 n2 c2, .slice o3 n3 c3] 26)) ⟨w.heap.size, j, none⟩ := fun j => (hb3.cell (by show w.heap.size < _; omega)).trans (kA2 j)
          have kB3 : ∀ j, World.cell? w3 ⟨w.heap.size + 1, j, none⟩ = World.cell? ((w.alloc (.cells #[.int .i64 x.clock, .slice o1 n1 c1, .slice o2 n2 c2, .slice o3 n3 c3] 26)).alloc (.cells A 54)) ⟨w.heap.size + 1, j, none⟩ := fun j => (hb3.cell (by show w.heap.size + 1 < _; omega)).trans (kB2 j)
          have hz3 : w.heap.size + 1 < w3.heap.size := Nat.lt_of_lt_of_le hz2 hb3.size
          have HB3 := Lib.hid (below_call HB2.out hb3)
          clear hb3 kA2 kB2 hz2
          go_wp2_with fail
          (with_reducible refine (C4.out _ HB3.out).mono ?_)
          rintro e w4 ⟨rfl, hb4⟩
          have kA4 : ∀ j, World.cell? w4 ⟨w.heap.size, j, none⟩ = World.cell? (w.alloc (.cells #[.int .i64 x.clock, .slice o1 n1 c1, .slice o2 n2 c2, .slice o3 n3 c3] 26)) ⟨w.heap.size, j, none⟩ := fun j => (hb4.cell (by show w.heap.size < _; omega)).trans (kA3 j)
          have kB4 : ∀ j, World.cell? w4 ⟨w.heap.size + 1, j, none⟩ = World.cell? ((w.alloc (.cells #[.int .i64 x.clock, .slice o1 n1 c1, .slice o2 n2 c2, .slice o3 n3 c3] 26)).alloc (.cells A 54)) ⟨w.heap.size + 1, j, none⟩ := fun j => (hb4.cell (by show w.heap.size + 1 < _; omega)).trans (kB3 j)
          have hz4 : w.heap.size + 1 < w4.heap.size := Nat.lt_of_lt_of_le hz3 hb4.size
          have HB4 := Lib.hid (below_call HB3.out hb4)
          clear hb4 kA3 kB3 hz3
          go_wp2_with fail
          go_ret
          exact ⟨_, rfl, by simp, HB4.out⟩
      · have C3 := Lib.hid (fun (W : World) (hb : Below w.heap.size w W) => n_f (great20_any _ x W (SW.out.later hb)) q3)
        clear q3
        go_enter Try.func5, Try.ntmps5
        go_wp2_with fail
        (with_reducible refine (C1.out _ HB.out).mono ?_)
        rintro e w1 ⟨rfl, hb1⟩
        have kA1 : ∀ j, World.cell? w1 ⟨w.heap.size, j, none⟩ = World.cell? (w.alloc (.cells #[.int .i64 x.clock, .slice o1 n1 c1, .slice o2 n2 c2, .slice o3 n3 c3] 26)) ⟨w.heap.size, j, none⟩ := fun j => (hb1.cell (by simp; omega)).trans (World.cell?_alloc_lt _ _ _ (by simp))
        have kB1 : ∀ j, World.cell? w1 ⟨w.heap.size + 1, j, none⟩ = World.cell? ((w.alloc (.cells #[.int .i64 x.clock, .slice o1 n1 c1, .slice o2 n2 c2, .slice o3 n3 c3] 26)).alloc (.cells A 54)) ⟨w.heap.size + 1, j, none⟩ := fun j => (hb1.cell (by simp)).trans rfl
        have hz1 : w.heap.size + 1 < w1.heap.size := Nat.lt_of_lt_of_le (by simp) hb1.size
        have HB1 := Lib.hid (below_call HB.out hb1)
        have HX1 := Lib.hid ((hb1.block (w.heap.size + 1) (by simp)).trans (heap_alloc2_new w _ _))
        clear hb1
        have HA1 := Lib.hid (show w1.heap[w.heap.size + 1]? = some (.cells A 54 (0, 0)) from HX1.out)
        dsimp only
        go_step
        go_step
        go_step
        go_step
        refine wpList_load_g (by simp [Region.wanted, yielded]) 54 (.tmp 3) (by rfl) (w.heap.size + 1) (by rfl) 54 A (0, 0) _ HA1.out Try.underlying54 (by rfl) SZ.out ?_
        clear HX1 HA1
        go_wp2_with fail
        (with_reducible refine (C2.out _ HB1.out).mono ?_)
        rintro e w2 ⟨rfl, hb2⟩
        have kA2 : ∀ j, World.cell? w2 ⟨w.heap.size, j, none⟩ = World.cell? (w.alloc (.cells #[.int .i64 x.clock, .slice o1 n1 c1, .slice o2 n2 c2, .slice o3 n3 c3] 26)) ⟨w.heap.size, j, none⟩ := fun j => (hb2.cell (by show w.heap.size < _; omega)).trans (kA1 j)
        have kB2 : ∀ j, World.cell? w2 ⟨w.heap.size + 1, j, none⟩ = World.cell? ((w.alloc (.cells #[.int .i64 x.clock, .slice o1 n1 c1, .slice o2 n2 c2, .slice o3 n3 c3] 26)).alloc (.cells A 54)) ⟨w.heap.size + 1, j, none⟩ := fun j => (hb2.cell (by show w.heap.size + 1 < _; omega)).trans (kB1 j)
        have hz2 : w.heap.size + 1 < w2.heap.size := Nat.lt_of_lt_of_le hz1 hb2.size
        have HB2 := Lib.hid (below_call HB1.out hb2)
        clear hb2 kA1 kB1 hz1
        go_wp2_with fail
        (with_reducible refine (C3.out _ HB2.out).mono ?_)
        rintro e w3 ⟨rfl, hb3⟩
        have kA3 : ∀ j, World.cell? w3 ⟨w.heap.size, j, none⟩ = World.cell? (w.alloc (.cells #[.int .i64 x.clock, .slice o1 n1 c1, .slice o2 n2 c2, .slice o3 n3 c3] 26)) ⟨w.heap.size, j, none⟩ := fun j => (hb3.cell (by show w.heap.size < _; omega)).trans (kA2 j)
        have kB3 : ∀ j, World.cell? w3 ⟨w.heap.size + 1, j, none⟩ = World.cell? ((w.alloc (.cells #[.int .i64 x.clock, .slice o1 n1 c1, .slice o2 n2 c2, .slice o3 n3 c3] 26)).alloc (.cells A 54)) ⟨w.heap.size + 1, j, none⟩ := fun j => (hb3.cell (by show w.heap.size + 1 < _; omega)).trans (kB2 j)
        have hz3 : w.heap.size + 1 < w3.heap.size := Nat.lt_of_lt_of_le hz2 hb3.size
        have HB3 := Lib.hid (below_call HB2.out hb3)
        clear hb3 kA2 kB2 hz2
        go_wp2_with fail
        go_ret
        exact ⟨_, rfl, by simp, HB3.out⟩
    · have C2 := Lib.hid (fun (W : World) (hb : Below w.heap.size w W) => n_f (CA.out W hb) q2)
      clear q2
      go_enter Try.func5, Try.ntmps5
      go_wp2_with fail
      (with_reducible refine (C1.out _ HB.out).mono ?_)
      rintro e w1 ⟨rfl, hb1⟩
      have kA1 : ∀ j, World.cell? w1 ⟨w.heap.size, j, none⟩ = World.cell? (w.alloc (.cells #[.int .i64 x.clock, .slice o1 n1 c1, .slice o2 n2 c2, .slice o3 n3 c3] 26)) ⟨w.heap.size, j, none⟩ := fun j => (hb1.cell (by simp; omega)).trans (World.cell?_alloc_lt _ _ _ (by simp))
      have kB1 : ∀ j, World.cell? w1 ⟨w.heap.size + 1, j, none⟩ = World.cell? ((w.alloc (.cells #[.int .i64 x.clock, .slice o1 n1 c1, .slice o2 n2 c2, .slice o3 n3 c3] 26)).alloc (.cells A 54)) ⟨w.heap.size + 1, j, none⟩ := fun j => (hb1.cell (by simp)).trans rfl
      have hz1 : w.heap.size + 1 < w1.heap.size := Nat.lt_of_lt_of_le (by simp) hb1.size
      have HB1 := Lib.hid (below_call HB.out hb1)
      have HX1 := Lib.hid ((hb1.block (w.heap.size + 1) (by simp)).trans (heap_alloc2_new w _ _))
      clear hb1
      have HA1 := Lib.hid (show w1.heap[w.heap.size + 1]? = some (.cells A 54 (0, 0)) from HX1.out)
      dsimp only
      go_step
      go_step
      go_step
      go_step
      refine wpList_load_g (by simp [Region.wanted, yielded]) 54 (.tmp 3) (by rfl) (w.heap.size + 1) (by rfl) 54 A (0, 0) _ HA1.out Try.underlying54 (by rfl) SZ.out ?_
      clear HX1 HA1
      go_wp2_with fail
      (with_reducible refine (C2.out _ HB1.out).mono ?_)
      rintro e w2 ⟨rfl, hb2⟩
      have kA2 : ∀ j, World.cell? w2 ⟨w.heap.size, j, none⟩ = World.cell? (w.alloc (.cells #[.int .i64 x.clock, .slice o1 n1 c1, .slice o2 n2 c2, .slice o3 n3 c3] 26)) ⟨w.heap.size, j, none⟩ := fun j => (hb2.cell (by show w.heap.size < _; omega)).trans (kA1 j)
      have kB2 : ∀ j, World.cell? w2 ⟨w.heap.size + 1, j, none⟩ = World.cell? ((w.alloc (.cells #[.int .i64 x.clock, .slice o1 n1 c1, .slice o2 n2 c2, .slice o3 n3 c3] 26)).alloc (.cells A 54)) ⟨w.heap.size + 1, j, none⟩ := fun j => (hb2.cell (by show w.heap.size + 1 < _; omega)).trans (kB1 j)
      have hz2 : w.heap.size + 1 < w2.heap.size := Nat.lt_of_lt_of_le hz1 hb2.size
      have HB2 := Lib.hid (below_call HB1.out hb2)
      clear hb2 kA1 kB1 hz1
      go_wp2_with fail
      go_ret
      exact ⟨_, rfl, by simp, HB2.out⟩
  · have C1 := Lib.hid (fun (W : World) (hb : Below w.heap.size w W) => n_f (greatState_any _ x W (SW.out.later hb)) q1)
    clear q1
    go_enter Try.func5, Try.ntmps5
    go_wp2_with fail
    (with_reducible refine (C1.out _ HB.out).mono ?_)
    rintro e w1 ⟨rfl, hb1⟩
    have kA1 : ∀ j, World.cell? w1 ⟨w.heap.size, j, none⟩ = World.cell? (w.alloc (.cells #[.int .i64 x.clock, .slice o1 n1 c1, .slice o2 n2 c2, .slice o3 n3 c3] 26)) ⟨w.heap.size, j, none⟩ := fun j => (hb1.cell (by simp; omega)).trans (World.cell?_alloc_lt _ _ _ (by simp))
    have kB1 : ∀ j, World.cell? w1 ⟨w.heap.size + 1, j, none⟩ = World.cell? ((w.alloc (.cells #[.int .i64 x.clock, .slice o1 n1 c1, .slice o2 n2 c2, .slice o3 n3 c3] 26)).alloc (.cells A 54)) ⟨w.heap.size + 1, j, none⟩ := fun j => (hb1.cell (by simp)).trans rfl
    have hz1 : w.heap.size + 1 < w1.heap.size := Nat.lt_of_lt_of_le (by simp) hb1.size
    have HB1 := Lib.hid (below_call HB.out hb1)
    have HX1 := Lib.hid ((hb1.block (w.heap.size + 1) (by simp)).trans (heap_alloc2_new w _ _))
    clear hb1
    go_wp2_with fail
    go_ret
    exact ⟨_, rfl, by simp, HB1.out⟩
end Go.Proofs.Ytcleicjgeflbnaa
