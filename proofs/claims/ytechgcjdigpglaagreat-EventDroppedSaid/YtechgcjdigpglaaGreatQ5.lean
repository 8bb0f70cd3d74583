/- event: At. Conditions: the event reads, its rows are not too long. -/
import Derived.Test.YtechgcjdigpglaaGreatQ4
namespace Go.Proofs.YtechgcjdigpglaaGreat
open Go.RowKit Go.ChangeShapes Go.WideShapes Go.Deep
set_option linter.all false

/-- Is a time one of an event's. -/
def atE (e : EventD) (x : Int) : Prop := mayE e ∧ (e.again = false → x = e.start) ∧ (e.again = true → ¬ x ∈ e.ex ∧ (x ∈ e.plus ∨ x ∈ allT e.rule e.start))

set_option maxHeartbeats 20000000 in
set_option maxRecDepth 100000 in
theorem atE_any (cs : List Value) (e : EventD) (x : Int) (w : World) (h : rEvent w cs e) (hf : fewE e) :
    Calls Tryz.prog 19 #[.agg cs.toArray, .int .i64 x] w fun r w' => r = .returned (.bool (dec (atE e x))) ∧ Below w.heap.size w w' := by
  have SE := Lib.hid h
  obtain ⟨om, nm, cm, od, nd, cd, oy, ny, cy, op, np, cp, oe, ne, ce, ol, nl, cl, oc, nc, cc, rfl, SR, l1, l2, l3, R1, R2, R3, -, -⟩ := h.opn
  have HB := Lib.hid (show Below w.heap.size w (w.alloc (.cells #[.int .i64 e.start, .int .i64 e.long, .bool e.world, .bool e.again, .int .i64 e.rule.freq, .int .i64 e.rule.interval, .int .i64 e.rule.count, .int .i64 e.rule.until_, .slice om nm cm, .slice od nd cd, .slice oy ny cy, .slice op np cp, .int .i64 e.rule.start, .slice oe ne ce, .slice ol nl cl, .slice oc nc cc] 32)) from belowA _ (Below.refl _ _))
  have CM0 := Lib.hid (fun (W : World) (hb : Below w.heap.size w W) => mayE_any _ e W (SE.out.later hb) hf)
  have CX0 := Lib.hid (fun (hm : mayE e) (ha : e.again = true) (W : World) (hb : Below w.heap.size w W) => hasE_any _ _ x W (R1.later' hb) (rises_pairwise (hm.2.2.2.2 ha).2.2.1.2.1) hf.x)
  have CP0 := Lib.hid (fun (hm : mayE e) (ha : e.again = true) (W : World) (hb : Below w.heap.size w W) => hasE_any _ _ x W (R2.later' hb) (rises_pairwise (hm.2.2.2.2 ha).2.2.2.1.2.1) hf.p)
  have CR := Lib.hid (fun (W : World) (hb : Below w.heap.size w W) => recurHas_any _ _ e.start x W (SR.later hb) hf.r)
  clear SE R1 R2 R3 SR l1 l2 l3 hf h
  by_cases hm : mayE e
  · have CM := Lib.hid (fun W hb => c_t (CM0.out W hb) hm)
    clear CM0
    cases ha : e.again with
    | false =>
      have HM := Lib.hid (And.intro hm ha)
      simp only [ha] at HB CM
      clear ha hm
      by_cases hx : x = e.start
      · have d1 : (x == e.start) = true := by simpa using hx
        have HX := Lib.hid hx
        clear hx
        go_enter Tryz.func19, Tryz.ntmps19
        go_wp2_with (first
          | (go_at_call 13; ((with_reducible refine (CM.out _ HB.out).mono ?_)); rintro q w1 ⟨rfl, hb1⟩; have kA1 : ∀ j, World.cell? w1 ⟨w.heap.size, j, none⟩ = World.cell? (w.alloc (.cells #[.int .i64 e.start, .int .i64 e.long, .bool e.world, .bool false, .int .i64 e.rule.freq, .int .i64 e.rule.interval, .int .i64 e.rule.count, .int .i64 e.rule.until_, .slice om nm cm, .slice od nd cd, .slice oy ny cy, .slice op np cp, .int .i64 e.rule.start, .slice oe ne ce, .slice ol nl cl, .slice oc nc cc] 32)) ⟨w.heap.size, j, none⟩ := fun j => hb1.cell (by simp); have hz1 : w.heap.size < w1.heap.size := Nat.lt_of_lt_of_le (by simp) hb1.size; have HB1 := Lib.hid (below_call HB.out hb1); clear hb1))
        go_ret
        exact ⟨ret_t ⟨HM.out.1, fun _ => HX.out, (fun h => by rw [HM.out.2] at h; cases h)⟩, HB1.out⟩
      · have d1 : (x == e.start) = false := by simpa using hx
        have HX := Lib.hid hx
        clear hx
        go_enter Tryz.func19, Tryz.ntmps19
        go_wp2_with (first
          | (go_at_call 13; ((with_reducible refine (CM.out _ HB.out).mono ?_)); rintro q w1 ⟨rfl, hb1⟩; have kA1 : ∀ j, World.cell? w1 ⟨w.heap.size, j, none⟩ = World.cell? (w.alloc (.cells #[.int .i64 e.start, .int .i64 e.long, .bool e.world, .bool false, .int .i64 e.rule.freq, .int .i64 e.rule.interval, .int .i64 e.rule.count, .int .i64 e.rule.until_, .slice om nm cm, .slice od nd cd, .slice oy ny cy, .slice op np cp, .int .i64 e.rule.start, .slice oe ne ce, .slice ol nl cl, .slice oc nc cc] 32)) ⟨w.heap.size, j, none⟩ := fun j => hb1.cell (by simp); have hz1 : w.heap.size < w1.heap.size := Nat.lt_of_lt_of_le (by simp) hb1.size; have HB1 := Lib.hid (below_call HB.out hb1); clear hb1))
        go_ret
        exact ⟨ret_f fun h => HX.out (h.2.1 HM.out.2), HB1.out⟩
    | true =>
      have HM := Lib.hid (And.intro hm ha)
      simp only [ha] at HB CM
      have CX1 := Lib.hid (CX0.out hm ha)
      have CP1 := Lib.hid (CP0.out hm ha)
      clear ha hm CX0 CP0
      by_cases hx : x ∈ e.ex
      · have CX := Lib.hid (fun W hb => c_t (CX1.out W hb) hx)
        have HX := Lib.hid hx
        clear hx CX1
        go_enter Tryz.func19, Tryz.ntmps19
        go_wp2_with (first
          | (go_at_call 13; ((with_reducible refine (CM.out _ HB.out).mono ?_)); rintro q w1 ⟨rfl, hb1⟩; have kA1 : ∀ j, World.cell? w1 ⟨w.heap.size, j, none⟩ = World.cell? (w.alloc (.cells #[.int .i64 e.start, .int .i64 e.long, .bool e.world, .bool true, .int .i64 e.rule.freq, .int .i64 e.rule.interval, .int .i64 e.rule.count, .int .i64 e.rule.until_, .slice om nm cm, .slice od nd cd, .slice oy ny cy, .slice op np cp, .int .i64 e.rule.start, .slice oe ne ce, .slice ol nl cl, .slice oc nc cc] 32)) ⟨w.heap.size, j, none⟩ := fun j => hb1.cell (by simp); have hz1 : w.heap.size < w1.heap.size := Nat.lt_of_lt_of_le (by simp) hb1.size; have HB1 := Lib.hid (below_call HB.out hb1); clear hb1)
          | (go_at_call 60; ((with_reducible refine (CX.out _ HB1.out).mono ?_)); rintro q w2 ⟨rfl, hb2⟩; have kA2 : ∀ j, World.cell? w2 ⟨w.heap.size, j, none⟩ = World.cell? (w.alloc (.cells #[.int .i64 e.start, .int .i64 e.long, .bool e.world, .bool true, .int .i64 e.rule.freq, .int .i64 e.rule.interval, .int .i64 e.rule.count, .int .i64 e.rule.until_, .slice om nm cm, .slice od nd cd, .slice oy ny cy, .slice op np cp, .int .i64 e.rule.start, .slice oe ne ce, .slice ol nl cl, .slice oc nc cc] 32)) ⟨w.heap.size, j, none⟩ := fun j => (hb2.cell hz1).trans (kA1 j); have hz2 : w.heap.size < w2.heap.size := Nat.lt_of_lt_of_le hz1 hb2.size; have HB2 := Lib.hid (below_call HB1.out hb2); clear hb2 kA1 hz1))
        go_ret
        exact ⟨ret_f fun h => (h.2.2 HM.out.2).1 HX.out, HB2.out⟩
      · have CX := Lib.hid (fun W hb => c_f (CX1.out W hb) hx)
        have HX := Lib.hid hx
        clear hx CX1
        by_cases hp : x ∈ e.plus
        · have CP := Lib.hid (fun W hb => c_t (CP1.out W hb) hp)
          have HP := Lib.hid hp
          clear hp CP1
          go_enter Tryz.func19, Tryz.ntmps19
          go_wp2_with (first
            | (go_at_call 13; ((with_reducible refine (CM.out _ HB.out).mono ?_)); rintro q w1 ⟨rfl, hb1⟩; have kA1 : ∀ j, World.cell? w1 ⟨w.heap.size, j, none⟩ = World.cell? (w.alloc (.cells #[.int .i64 e.start, .int .i64 e.long, .bool e.world, .bool true, .int .i64 e.rule.freq, .int .i64 e.rule.interval, .int .i64 e.rule.count, .int .i64 e.rule.until_, .slice om nm cm, .slice od nd cd, .slice oy ny cy, .slice op np cp, .int .i64 e.rule.start, .slice oe ne ce, .slice ol nl cl, .slice oc nc cc] 32)) ⟨w.heap.size, j, none⟩ := fun j => hb1.cell (by simp); have hz1 : w.heap.size < w1.heap.size := Nat.lt_of_lt_of_le (by simp) hb1.size; have HB1 := Lib.hid (below_call HB.out hb1); clear hb1)
            | (go_at_call 60; ((with_reducible refine (CX.out _ HB1.out).mono ?_)); rintro q w2 ⟨rfl, hb2⟩; have kA2 : ∀ j, World.cell? w2 ⟨w.heap.size, j, none⟩ = World.cell? (w.alloc (.cells #[.int .i64 e.start, .int .i64 e.long, .bool e.world, .bool true, .int .i64 e.rule.freq, .int .i64 e.rule.interval, .int .i64 e.rule.count, .int .i64 e.rule.until_, .slice om nm cm, .slice od nd cd, .slice oy ny cy, .slice op np cp, .int .i64 e.rule.start, .slice oe ne ce, .slice ol nl cl, .slice oc nc cc] 32)) ⟨w.heap.size, j, none⟩ := fun j => (hb2.cell hz1).trans (kA1 j); have hz2 : w.heap.size < w2.heap.size := Nat.lt_of_lt_of_le hz1 hb2.size; have HB2 := Lib.hid (below_call HB1.out hb2); clear hb2 kA1 hz1)
            | (go_at_call 60; ((with_reducible refine (CP.out _ HB2.out).mono ?_)); rintro q w3 ⟨rfl, hb3⟩; have kA3 : ∀ j, World.cell? w3 ⟨w.heap.size, j, none⟩ = World.cell? (w.alloc (.cells #[.int .i64 e.start, .int .i64 e.long, .bool e.world, .bool true, .int .i64 e.rule.freq, .int .i64 e.rule.interval, .int .i64 e.rule.count, .int .i64 e.rule.until_, .slice om nm cm, .slice od nd cd, .slice oy ny cy, .slice op np cp, .int .i64 e.rule.start, .slice oe ne ce, .slice ol nl cl, .slice oc nc cc] 32)) ⟨w.heap.size, j, none⟩ := fun j => (hb3.cell hz2).trans (kA2 j); have hz3 : w.heap.size < w3.heap.size := Nat.lt_of_lt_of_le hz2 hb3.size; have HB3 := Lib.hid (below_call HB2.out hb3); clear hb3 kA2 hz2))
          go_ret
          exact ⟨ret_t ⟨HM.out.1, (fun h => by rw [HM.out.2] at h; cases h), fun _ => ⟨HX.out, .inl HP.out⟩⟩, HB3.out⟩
        · have CP := Lib.hid (fun W hb => c_f (CP1.out W hb) hp)
          have HP := Lib.hid hp
          clear hp CP1
          go_enter Tryz.func19, Tryz.ntmps19
          go_wp2_with (first
            | (go_at_call 13; ((with_reducible refine (CM.out _ HB.out).mono ?_)); rintro q w1 ⟨rfl, hb1⟩; have kA1 : ∀ j, World.cell? w1 ⟨w.heap.size, j, none⟩ = World.cell? (w.alloc (.cells #[.int .i64 e.start, .int .i64 e.long, .bool e.world, .bool true, .int .i64 e.rule.freq, .int .i64 e.rule.interval, .int .i64 e.rule.count, .int .i64 e.rule.until_, .slice om nm cm, .slice od nd cd, .slice oy ny cy, .slice op np cp, .int .i64 e.rule.start, .slice oe ne ce, .slice ol nl cl, .slice oc nc cc] 32)) ⟨w.heap.size, j, none⟩ := fun j => hb1.cell (by simp); have hz1 : w.heap.size < w1.heap.size := Nat.lt_of_lt_of_le (by simp) hb1.size; have HB1 := Lib.hid (below_call HB.out hb1); clear hb1)
            | (go_at_call 60; ((with_reducible refine (CX.out _ HB1.out).mono ?_)); rintro q w2 ⟨rfl, hb2⟩; have kA2 : ∀ j, World.cell? w2 ⟨w.heap.size, j, none⟩ = World.cell? (w.alloc (.cells #[.int .i64 e.start, .int .i64 e.long, .bool e.world, .bool true, .int .i64 e.rule.freq, .int .i64 e.rule.interval, .int .i64 e.rule.count, .int .i64 e.rule.until_, .slice om nm cm, .slice od nd cd, .slice oy ny cy, .slice op np cp, .int .i64 e.rule.start, .slice oe ne ce, .slice ol nl cl, .slice oc nc cc] 32)) ⟨w.heap.size, j, none⟩ := fun j => (hb2.cell hz1).trans (kA1 j); have hz2 : w.heap.size < w2.heap.size := Nat.lt_of_lt_of_le hz1 hb2.size; have HB2 := Lib.hid (below_call HB1.out hb2); clear hb2 kA1 hz1)
            | (go_at_call 60; ((with_reducible refine (CP.out _ HB2.out).mono ?_)); rintro q w3 ⟨rfl, hb3⟩; have kA3 : ∀ j, World.cell? w3 ⟨w.heap.size, j, none⟩ = World.cell? (w.alloc (.cells #[.int .i64 e.start, .int .i64 e.long, .bool e.world, .bool true, .int .i64 e.rule.freq, .int .i64 e.rule.interval, .int .i64 e.rule.count, .int .i64 e.rule.until_, .slice om nm cm, .slice od nd cd, .slice oy ny cy, .slice op np cp, .int .i64 e.rule.start, .slice oe ne ce, .slice ol nl cl, .slice oc nc cc] 32)) ⟨w.heap.size, j, none⟩ := fun j => (hb3.cell hz2).trans (kA2 j); have hz3 : w.heap.size < w3.heap.size := Nat.lt_of_lt_of_le hz2 hb3.size; have HB3 := Lib.hid (below_call HB2.out hb3); clear hb3 kA2 hz2)
            | (go_at_call 61; ((with_reducible refine (CR.out _ HB3.out).mono ?_)); rintro q w4 ⟨rfl, hb4⟩; have kA4 : ∀ j, World.cell? w4 ⟨w.heap.size, j, none⟩ = World.cell? (w.alloc (.cells #[.int .i64 e.start, .int .i64 e.long, .bool e.world, .bool true, .int .i64 e.rule.freq, .int .i64 e.rule.interval, .int .i64 e.rule.count, .int .i64 e.rule.until_, .slice om nm cm, .slice od nd cd, .slice oy ny cy, .slice op np cp, .int .i64 e.rule.start, .slice oe ne ce, .slice ol nl cl, .slice oc nc cc] 32)) ⟨w.heap.size, j, none⟩ := fun j => (hb4.cell hz3).trans (kA3 j); have hz4 : w.heap.size < w4.heap.size := Nat.lt_of_lt_of_le hz3 hb4.size; have HB4 := Lib.hid (below_call HB3.out hb4); clear hb4 kA3 hz3))
          go_ret
          exact ⟨ret_dec (by rw [dec_iff]; exact ⟨fun h => ⟨HM.out.1, (fun h => by rw [HM.out.2] at h; cases h), fun _ => ⟨HX.out, .inr h.2.2⟩⟩, fun h => ⟨(HM.out.1.2.2.2.2 HM.out.2).2.1, HM.out.1.1, ((h.2.2 HM.out.2).2.resolve_left HP.out)⟩⟩), HB4.out⟩
  · have CM := Lib.hid (fun W hb => c_f (CM0.out W hb) hm)
    have HM := Lib.hid hm
    clear hm CM0
    go_enter Tryz.func19, Tryz.ntmps19
    go_wp2_with (first
      | (go_at_call 13; ((with_reducible refine (CM.out _ HB.out).mono ?_)); rintro q w1 ⟨rfl, hb1⟩; have kA1 : ∀ j, World.cell? w1 ⟨w.heap.size, j, none⟩ = World.cell? (w.alloc (.cells #[.int .i64 e.start, .int .i64 e.long, .bool e.world, .bool e.again, .int .i64 e.rule.freq, .int .i64 e.rule.interval, .int .i64 e.rule.count, .int .i64 e.rule.until_, .slice om nm cm, .slice od nd cd, .slice oy ny cy, .slice op np cp, .int .i64 e.rule.start, .slice oe ne ce, .slice ol nl cl, .slice oc nc cc] 32)) ⟨w.heap.size, j, none⟩ := fun j => hb1.cell (by simp); have hz1 : w.heap.size < w1.heap.size := Nat.lt_of_lt_of_le (by simp) hb1.size; have HB1 := Lib.hid (below_call HB.out hb1); clear hb1))
    go_ret
    exact ⟨ret_f fun h => HM.out h.1, HB1.out⟩
end Go.Proofs.YtechgcjdigpglaaGreat
