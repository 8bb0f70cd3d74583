/- The walk of the law RuleAlike at two rules of which one may not be: it answers true. Conditions: neither is great, the tables are laid, the errors of strconv lie in their boxes. -/
import Derived.Test.YtcleicjgeflbnaaGreatDoorX7
import Derived.Deep.DrawnRows
namespace Go.Proofs.YtcleicjgeflbnaaGreatDoor
open Go.RowKit Go.ChangeShapes Go.WideShapes Go.Deep
set_option linter.all false
attribute [local go_sem ↓] Go.wp_at_zero Go.wp_at_succ

set_option maxRecDepth 100000 in
set_option maxHeartbeats 20000000 in
theorem alike_one (ca cb : List Value) (a b : RuleD) (w : World) (ha : rRule w ca a) (hb : rRule w cb b) (hL : Laid w) (hE : Errs w) (hga : ¬ greatR a) (hgb : ¬ greatR b) (hm : ¬ (mayR a ∧ mayR b)) :
    Calls Tryz.prog 6 #[.agg ca.toArray, .agg cb.toArray] w fun e w' => e = .returned (.bool true) ∧ Below w.heap.size w w' := by
  have SA := Lib.hid ha; have SB := Lib.hid hb; have HL := Lib.hid hL; have HE := Lib.hid hE
  obtain ⟨ma, da, ya, pa, rfl, -, -, -, -, -, rma, rda, rya, rpa⟩ := ha
  obtain ⟨oma, nma, cma, rfl, -, -, -, Rma⟩ := rma.open
  obtain ⟨oda, nda, cda, rfl, -, -, -, Rda⟩ := rda.open
  obtain ⟨oya, nya, cya, rfl, -, -, -, Rya⟩ := rya.open
  obtain ⟨opa, npa, cpa, rfl, -, -, -, Rpa⟩ := rpa.open
  clear rma rda rya rpa Rma Rda Rya Rpa
  obtain ⟨mb, db, yb, pb, rfl, -, -, -, -, -, rmb, rdb, ryb, rpb⟩ := hb
  obtain ⟨omb, nmb, cmb, rfl, -, -, -, Rmb⟩ := rmb.open
  obtain ⟨odb, ndb, cdb, rfl, -, -, -, Rdb⟩ := rdb.open
  obtain ⟨oyb, nyb, cyb, rfl, -, -, -, Ryb⟩ := ryb.open
  obtain ⟨opb, npb, cpb, rfl, -, -, -, Rpb⟩ := rpb.open
  clear rmb rdb ryb rpb Rmb Rdb Ryb Rpb
  have GA := Lib.hid (fun (W : World) (hb : Below w.heap.size w W) => c_f (great_any _ a W (SA.out.later hb)) hga)
  have GB := Lib.hid (fun (W : World) (hb : Below w.heap.size w W) => c_f (great_any _ b W (SB.out.later hb)) hgb)
  have FX := Lib.hid (fun (W : World) (hb : Below w.heap.size w W) => fixed_any W (HL.out.later hb) (HE.out.later hb))
  have HB0 := Lib.hid (show Below w.heap.size w ((w.alloc (.cells #[.int .i64 a.freq, .int .i64 a.interval, .int .i64 a.count, .int .i64 a.until_, .slice oma nma cma, .slice oda nda cda, .slice oya nya cya, .slice opa npa cpa, .int .i64 a.start] 26)).alloc (.cells #[.int .i64 b.freq, .int .i64 b.interval, .int .i64 b.count, .int .i64 b.until_, .slice omb nmb cmb, .slice odb ndb cdb, .slice oyb nyb cyb, .slice opb npb cpb, .int .i64 b.start] 26)) from belowA _ (belowA _ (Below.refl _ _)))
  obtain ⟨oa, hoa⟩ : ∃ g, g = dec (mayR a) := ⟨_, rfl⟩
  obtain ⟨ob, hob⟩ : ∃ g, g = dec (mayR b) := ⟨_, rfl⟩
  obtain ⟨X, hX⟩ : ∃ X, X = if oa then toB (textR shortT a) else ⟨#[]⟩ := ⟨_, rfl⟩
  obtain ⟨Y, hY⟩ : ∃ Y, Y = if ob then toB (textR shortT b) else ⟨#[]⟩ := ⟨_, rfl⟩
  have TA := Lib.hid (fun (W : World) (hb : Below w.heap.size w W) => text_any _ a W (SA.out.later hb) (few_of hga) (HL.out.later hb) X oa hoa hX)
  have TB := Lib.hid (fun (W : World) (hb : Below w.heap.size w W) => text_any _ b W (SB.out.later hb) (few_of hgb) (HL.out.later hb) Y ob hob hY)
  obtain ⟨q, hq⟩ : ∃ q, q = dec (a = b) := ⟨_, rfl⟩
  have ES := Lib.hid (fun (W : World) (hb : Below w.heap.size w W) => same_any _ _ a b W (SA.out.later hb) (SB.out.later hb))
  have ER := Lib.hid (fun (W : World) (hb : Below w.heap.size w W) => rule_any _ _ a b W (SA.out.later hb) (SB.out.later hb))
  rw [← hq] at ES ER
  have hc : oa = false ∨ (oa = true ∧ ob = false) := by
    by_cases m1 : mayR a
    · refine .inr ⟨by rw [hoa]; exact dec_t m1, by rw [hob]; exact dec_f (fun m2 => hm ⟨m1, m2⟩)⟩
    · exact .inl (by rw [hoa]; exact dec_f m1)
  have hqq : (q == q) = true := by simp
  clear hL hE hga hgb hoa hob hX hY hq hm
  rcases hc with rfl | ⟨rfl, rfl⟩
  · go_enter Tryz.func6, Tryz.ntmps6
    go_wp2_with (go_at_call 12; (with_reducible refine (GA.out _ HB0.out).mono ?_); rintro e w1 ⟨rfl, hb1⟩; have B1 := Lib.hid (HB0.out.trans (hb1.mono HB0.out.size)); have kA1 : ∀ j, w1.cell? ⟨w.heap.size, j, none⟩ = (#[.int .i64 a.freq, .int .i64 a.interval, .int .i64 a.count, .int .i64 a.until_, .slice oma nma cma, .slice oda nda cda, .slice oya nya cya, .slice opa npa cpa, .int .i64 a.start] : Array Value)[j]? := fun j => (hb1.cell (p := ⟨w.heap.size, j, none⟩) (by simp; omega)).trans (cell_of_row _ _ _ _ _ _ (heap_alloc2_old _ _ _)); have kB1 : ∀ j, w1.cell? ⟨w.heap.size + 1, j, none⟩ = (#[.int .i64 b.freq, .int .i64 b.interval, .int .i64 b.count, .int .i64 b.until_, .slice omb nmb cmb, .slice odb ndb cdb, .slice oyb nyb cyb, .slice opb npb cpb, .int .i64 b.start] : Array Value)[j]? := fun j => (hb1.cell (p := ⟨w.heap.size + 1, j, none⟩) (by simp)).trans (cell_of_row _ _ _ _ _ _ (heap_alloc2_new _ _ _)); have z1 : w.heap.size + 1 < w1.heap.size := Nat.lt_of_lt_of_le (by simp) hb1.size; clear hb1)
    go_wp2_with (go_at_call 12; (with_reducible refine (GB.out _ B1.out).mono ?_); rintro e w2 ⟨rfl, hb2⟩; have B2 := Lib.hid (B1.out.trans (hb2.mono B1.out.size)); have kA2 : ∀ j, w2.cell? ⟨w.heap.size, j, none⟩ = (#[.int .i64 a.freq, .int .i64 a.interval, .int .i64 a.count, .int .i64 a.until_, .slice oma nma cma, .slice oda nda cda, .slice oya nya cya, .slice opa npa cpa, .int .i64 a.start] : Array Value)[j]? := fun j => (hb2.cell (p := ⟨w.heap.size, j, none⟩) (by simp only; omega)).trans (kA1 j); have kB2 : ∀ j, w2.cell? ⟨w.heap.size + 1, j, none⟩ = (#[.int .i64 b.freq, .int .i64 b.interval, .int .i64 b.count, .int .i64 b.until_, .slice omb nmb cmb, .slice odb ndb cdb, .slice oyb nyb cyb, .slice opb npb cpb, .int .i64 b.start] : Array Value)[j]? := fun j => (hb2.cell (p := ⟨w.heap.size + 1, j, none⟩) (by simp only; omega)).trans (kB1 j); have z2 : w.heap.size + 1 < w2.heap.size := Nat.lt_of_lt_of_le z1 hb2.size; clear hb2)
    go_wp2_with (go_at_call 13; (with_reducible refine (TA.out _ B2.out).mono ?_); rintro e w3 ⟨rfl, hb3⟩; have B3 := Lib.hid (B2.out.trans (hb3.mono B2.out.size)); have kA3 : ∀ j, w3.cell? ⟨w.heap.size, j, none⟩ = (#[.int .i64 a.freq, .int .i64 a.interval, .int .i64 a.count, .int .i64 a.until_, .slice oma nma cma, .slice oda nda cda, .slice oya nya cya, .slice opa npa cpa, .int .i64 a.start] : Array Value)[j]? := fun j => (hb3.cell (p := ⟨w.heap.size, j, none⟩) (by simp only; omega)).trans (kA2 j); have kB3 : ∀ j, w3.cell? ⟨w.heap.size + 1, j, none⟩ = (#[.int .i64 b.freq, .int .i64 b.interval, .int .i64 b.count, .int .i64 b.until_, .slice omb nmb cmb, .slice odb ndb cdb, .slice oyb nyb cyb, .slice opb npb cpb, .int .i64 b.start] : Array Value)[j]? := fun j => (hb3.cell (p := ⟨w.heap.size + 1, j, none⟩) (by simp only; omega)).trans (kB2 j); have z3 : w.heap.size + 1 < w3.heap.size := Nat.lt_of_lt_of_le z2 hb3.size; clear hb3)
    go_wp2_with (go_at_call 13; (with_reducible refine (TB.out _ B3.out).mono ?_); rintro e w4 ⟨rfl, hb4⟩; have B4 := Lib.hid (B3.out.trans (hb4.mono B3.out.size)); have kA4 : ∀ j, w4.cell? ⟨w.heap.size, j, none⟩ = (#[.int .i64 a.freq, .int .i64 a.interval, .int .i64 a.count, .int .i64 a.until_, .slice oma nma cma, .slice oda nda cda, .slice oya nya cya, .slice opa npa cpa, .int .i64 a.start] : Array Value)[j]? := fun j => (hb4.cell (p := ⟨w.heap.size, j, none⟩) (by simp only; omega)).trans (kA3 j); have kB4 : ∀ j, w4.cell? ⟨w.heap.size + 1, j, none⟩ = (#[.int .i64 b.freq, .int .i64 b.interval, .int .i64 b.count, .int .i64 b.until_, .slice omb nmb cmb, .slice odb ndb cdb, .slice oyb nyb cyb, .slice opb npb cpb, .int .i64 b.start] : Array Value)[j]? := fun j => (hb4.cell (p := ⟨w.heap.size + 1, j, none⟩) (by simp only; omega)).trans (kB3 j); have z4 : w.heap.size + 1 < w4.heap.size := Nat.lt_of_lt_of_le z3 hb4.size; clear hb4)
    have hS4 : (∀ j, w4.cell? ⟨w.heap.size, j, none⟩ = (#[.int .i64 a.freq, .int .i64 a.interval, .int .i64 a.count, .int .i64 a.until_, .slice oma nma cma, .slice oda nda cda, .slice oya nya cya, .slice opa npa cpa, .int .i64 a.start] : Array Value)[j]?) ∧ (∀ j, w4.cell? ⟨w.heap.size + 1, j, none⟩ = (#[.int .i64 b.freq, .int .i64 b.interval, .int .i64 b.count, .int .i64 b.until_, .slice omb nmb cmb, .slice odb ndb cdb, .slice oyb nyb cyb, .slice opb npb cpb, .int .i64 b.start] : Array Value)[j]?) := ⟨kA4, kB4⟩
    clear kA1 kB1 kA2 kB2 kA3 kB3 kA4 kB4 z1 z2 z3
    have hSd : (∀ j, w4.drew.cell? ⟨w.heap.size, j, none⟩ = (#[.int .i64 a.freq, .int .i64 a.interval, .int .i64 a.count, .int .i64 a.until_, .slice oma nma cma, .slice oda nda cda, .slice oya nya cya, .slice opa npa cpa, .int .i64 a.start] : Array Value)[j]?) ∧ (∀ j, w4.drew.cell? ⟨w.heap.size + 1, j, none⟩ = (#[.int .i64 b.freq, .int .i64 b.interval, .int .i64 b.count, .int .i64 b.until_, .slice omb nmb cmb, .slice odb ndb cdb, .slice oyb nyb cyb, .slice opb npb cpb, .int .i64 b.start] : Array Value)[j]?) := hS4
    refine wp_region_held_drew (S := (fun W' => (∀ j, W'.cell? ⟨w.heap.size, j, none⟩ = (#[.int .i64 a.freq, .int .i64 a.interval, .int .i64 a.count, .int .i64 a.until_, .slice oma nma cma, .slice oda nda cda, .slice oya nya cya, .slice opa npa cpa, .int .i64 a.start] : Array Value)[j]?) ∧ (∀ j, W'.cell? ⟨w.heap.size + 1, j, none⟩ = (#[.int .i64 b.freq, .int .i64 b.interval, .int .i64 b.count, .int .i64 b.until_, .slice omb nmb cmb, .slice odb ndb cdb, .slice oyb nyb cyb, .slice opb npb cpb, .int .i64 b.start] : Array Value)[j]?))) (by kernel_rfl) hSd (fun hHeld => ?_)
    simp only [List.size_toArray, List.length_cons, List.length_nil, Nat.reduceAdd, Array.replicate_succ, Array.replicate_zero, List.push_toArray, List.nil_append, List.cons_append]
    refine wpAnyH_ready (rs := [0]) (by kernel_rfl) (by simp) ?_
    refine AllReadyH.cons rfl (fun K hK => ?_) AllReadyH.nil
    go_simp
    go_at_call 7; (with_reducible refine (FX.out _ (by first | exact B4.out | exact B4.out.drew)).mono ?_); rintro e w5 ⟨rfl, hb5⟩; have B5 := Lib.hid (show Below w.heap.size w w5 from (B4.out.drew).trans (Below.mono (show Below w4.drew.heap.size w4.drew w5 from ⟨hb5.os, hb5.tape, hb5.output, hb5.size, hb5.block⟩) B4.out.size)); have z5 : w.heap.size + 1 < w5.heap.size := Nat.lt_of_lt_of_le z4 (show w4.heap.size ≤ w5.heap.size from hb5.size); have hS5 := And.intro (fun j => (hb5.cell (p := ⟨w.heap.size, j, none⟩) (show w.heap.size < w4.heap.size by omega)).trans (hS4.1 j)) (fun j => (hb5.cell (p := ⟨w.heap.size + 1, j, none⟩) z4).trans (hS4.2 j)); clear hb5
    go_simp
    refine hK.out _ _ hS5 (fun hHeld => ?_)
    clear hK K
    try simp only [Act.put, List.setIfInBounds_toArray, List.set_cons_zero, List.set_cons_succ]
    refine wpAnyH_take (i := 1) (oi := ⟨some 27, _, _, _, _, _⟩) (v := ?_) rfl (by kernel_rfl) (by kernel_rfl) (by kernel_rfl) (fun _ _ _ h => h) (Or.inl ⟨by kernel_rfl, ?_⟩) (by assumption) ?_
    rotate_left
    · intro w hSw; (try dsimp only at hSw); go_simp; try with_reducible rfl
    try simp only [Act.put, List.setIfInBounds_toArray, List.set_cons_zero, List.set_cons_succ]
    refine wpAnyH_take (i := 2) (oi := ⟨some 28, _, _, _, _, _⟩) (v := ?_) rfl (by kernel_rfl) (by kernel_rfl) (by kernel_rfl) (fun _ _ _ h => h) (Or.inl ⟨by kernel_rfl, ?_⟩) (by assumption) ?_
    rotate_left
    · intro w hSw; (try dsimp only at hSw); go_simp; try with_reducible rfl
    try simp only [Act.put, List.setIfInBounds_toArray, List.set_cons_zero, List.set_cons_succ]
    refine wpAnyH_take (i := 3) (oi := ⟨some 29, _, _, _, _, _⟩) (v := ?_) rfl (by kernel_rfl) (by kernel_rfl) (by kernel_rfl) (fun _ _ _ h => h) (Or.inl ⟨by kernel_rfl, ?_⟩) (by assumption) ?_
    rotate_left
    · intro w hSw; (try dsimp only at hSw); go_simp; try with_reducible rfl
    try simp only [Act.put, List.setIfInBounds_toArray, List.set_cons_zero, List.set_cons_succ]
    refine wpAnyH_take (i := 5) (oi := ⟨some 31, _, _, _, _, _⟩) (v := ?_) rfl (by kernel_rfl) (by kernel_rfl) (by kernel_rfl) (fun _ _ _ h => h) (Or.inl ⟨by kernel_rfl, ?_⟩) (by assumption) ?_
    rotate_left
    · intro w hSw; (try dsimp only at hSw); go_simp; try with_reducible rfl
    try simp only [Act.put, List.setIfInBounds_toArray, List.set_cons_zero, List.set_cons_succ]
    refine wpAnyH_take (i := 6) (oi := ⟨some 32, _, _, _, _, _⟩) (v := ?_) rfl (by kernel_rfl) (by kernel_rfl) (by kernel_rfl) (fun _ _ _ h => h) (Or.inl ⟨by kernel_rfl, ?_⟩) (by assumption) ?_
    rotate_left
    · intro w hSw; (try dsimp only at hSw); go_simp; try with_reducible rfl
    try simp only [Act.put, List.setIfInBounds_toArray, List.set_cons_zero, List.set_cons_succ]
    refine wpAnyH_ready (rs := [4]) (by kernel_rfl) (by simp) ?_
    refine AllReadyH.cons rfl (fun K hK => ?_) AllReadyH.nil
    go_simp
    go_at_call 15; (with_reducible refine (ES.out _ (by first | exact B5.out | exact B5.out.drew)).mono ?_); rintro e w6 ⟨rfl, hb6⟩; have B6 := Lib.hid (show Below w.heap.size w w6 from (B5.out.drew).trans (Below.mono (show Below w5.drew.heap.size w5.drew w6 from ⟨hb6.os, hb6.tape, hb6.output, hb6.size, hb6.block⟩) B5.out.size)); have z6 : w.heap.size + 1 < w6.heap.size := Nat.lt_of_lt_of_le z5 (show w5.heap.size ≤ w6.heap.size from hb6.size); have hS6 := And.intro (fun j => (hb6.cell (p := ⟨w.heap.size, j, none⟩) (show w.heap.size < w5.heap.size by omega)).trans (hS5.1 j)) (fun j => (hb6.cell (p := ⟨w.heap.size + 1, j, none⟩) z5).trans (hS5.2 j)); clear hb6
    go_simp
    refine hK.out _ _ hS6 (fun hHeld => ?_)
    clear hK K
    try simp only [Act.put, List.setIfInBounds_toArray, List.set_cons_zero, List.set_cons_succ]
    refine wpAnyH_ready (rs := [7]) (by kernel_rfl) (by simp) ?_
    refine AllReadyH.cons rfl (fun K hK => ?_) AllReadyH.nil
    go_simp
    go_at_call 9; (with_reducible refine (ER.out _ (by first | exact B6.out | exact B6.out.drew)).mono ?_); rintro e w7 ⟨rfl, hb7⟩; have B7 := Lib.hid (show Below w.heap.size w w7 from (B6.out.drew).trans (Below.mono (show Below w6.drew.heap.size w6.drew w7 from ⟨hb7.os, hb7.tape, hb7.output, hb7.size, hb7.block⟩) B6.out.size)); have z7 : w.heap.size + 1 < w7.heap.size := Nat.lt_of_lt_of_le z6 (show w6.heap.size ≤ w7.heap.size from hb7.size); have hS7 := And.intro (fun j => (hb7.cell (p := ⟨w.heap.size, j, none⟩) (show w.heap.size < w6.heap.size by omega)).trans (hS6.1 j)) (fun j => (hb7.cell (p := ⟨w.heap.size + 1, j, none⟩) z6).trans (hS6.2 j)); clear hb7
    go_simp
    refine hK.out _ _ hS7 (fun hHeld => ?_)
    clear hK K
    try simp only [Act.put, List.setIfInBounds_toArray, List.set_cons_zero, List.set_cons_succ]
    refine wpAnyH_take (i := 8) (oi := ⟨some 34, _, _, _, _, _⟩) (v := ?_) rfl (by kernel_rfl) (by kernel_rfl) (by kernel_rfl) (fun _ _ _ h => h) (Or.inl ⟨by kernel_rfl, ?_⟩) (by assumption) ?_
    rotate_left
    · intro w hSw; (try dsimp only at hSw); go_simp; try with_reducible rfl
    try simp only [Act.put, List.setIfInBounds_toArray, List.set_cons_zero, List.set_cons_succ]
    refine wpAnyH_take (i := 9) (oi := ⟨some 35, _, _, _, _, _⟩) (v := ?_) rfl (by kernel_rfl) (by kernel_rfl) (by kernel_rfl) (fun _ _ _ h => h) (Or.inl ⟨by kernel_rfl, ?_⟩) (by assumption) ?_
    rotate_left
    · intro w hSw; (try dsimp only at hSw); go_simp; try with_reducible rfl
    try simp only [Act.put, List.setIfInBounds_toArray, List.set_cons_zero, List.set_cons_succ]
    refine wpAnyH_take (i := 10) (oi := ⟨some 36, _, _, _, _, _⟩) (v := ?_) rfl (by kernel_rfl) (by kernel_rfl) (by kernel_rfl) (fun _ _ _ h => h) (Or.inl ⟨by kernel_rfl, ?_⟩) (by assumption) ?_
    rotate_left
    · intro w hSw; (try dsimp only at hSw); go_simp; try with_reducible rfl
    try simp only [Act.put, List.setIfInBounds_toArray, List.set_cons_zero, List.set_cons_succ]
    refine wpAnyH_take (i := 11) (oi := ⟨some 37, _, _, _, _, _⟩) (v := ?_) rfl (by kernel_rfl) (by kernel_rfl) (by kernel_rfl) (fun _ _ _ h => h) (Or.inl ⟨by kernel_rfl, ?_⟩) (by assumption) ?_
    rotate_left
    · intro w hSw; (try dsimp only at hSw); go_simp; try with_reducible rfl
    try simp only [Act.put, List.setIfInBounds_toArray, List.set_cons_zero, List.set_cons_succ]
    refine wpAnyH_take (i := 12) (oi := ⟨some 38, _, _, _, _, _⟩) (v := ?_) rfl (by kernel_rfl) (by kernel_rfl) (by kernel_rfl) (fun _ _ _ h => h) (Or.inl ⟨by kernel_rfl, ?_⟩) (by assumption) ?_
    rotate_left
    · intro w hSw; (try dsimp only at hSw); go_simp; try with_reducible rfl
    try simp only [Act.put, List.setIfInBounds_toArray, List.set_cons_zero, List.set_cons_succ]
    refine wpAnyH_take (i := 13) (oi := ⟨some 39, _, _, _, _, _⟩) (v := ?_) rfl (by kernel_rfl) (by kernel_rfl) (by kernel_rfl) (fun _ _ _ h => h) (Or.inl ⟨by kernel_rfl, ?_⟩) (by assumption) ?_
    rotate_left
    · intro w hSw; (try dsimp only at hSw); go_simp; try with_reducible rfl
    try simp only [Act.put, List.setIfInBounds_toArray, List.set_cons_zero, List.set_cons_succ]
    refine wpAnyH_take (i := 14) (oi := ⟨some 40, _, _, _, _, _⟩) (v := undef) rfl (by kernel_rfl) (by kernel_rfl) (by kernel_rfl) (fun _ _ _ h => h) (Or.inr ⟨by kernel_rfl, rfl⟩) (by assumption) ?_
    try simp only [Act.put, List.setIfInBounds_toArray, List.set_cons_zero, List.set_cons_succ]
    refine wpAnyH_take (i := 15) (oi := ⟨some 41, _, _, _, _, _⟩) (v := undef) rfl (by kernel_rfl) (by kernel_rfl) (by kernel_rfl) (fun _ _ _ h => h) (Or.inr ⟨by kernel_rfl, rfl⟩) (by assumption) ?_
    try simp only [Act.put, List.setIfInBounds_toArray, List.set_cons_zero, List.set_cons_succ]
    refine wpAnyH_take (i := 16) (oi := ⟨some 42, _, _, _, _, _⟩) (v := ?_) rfl (by kernel_rfl) (by kernel_rfl) (by kernel_rfl) (fun _ _ _ h => h) (Or.inl ⟨by kernel_rfl, ?_⟩) (by assumption) ?_
    rotate_left
    · intro w hSw; (try dsimp only at hSw); go_simp; try with_reducible rfl
    try simp only [Act.put, List.setIfInBounds_toArray, List.set_cons_zero, List.set_cons_succ]
    refine wpAnyH_take (i := 17) (oi := ⟨some 43, _, _, _, _, _⟩) (v := ?_) rfl (by kernel_rfl) (by kernel_rfl) (by kernel_rfl) (fun _ _ _ h => h) (Or.inl ⟨by kernel_rfl, ?_⟩) (by assumption) ?_
    rotate_left
    · intro w hSw; (try dsimp only at hSw); go_simp; try with_reducible rfl
    try simp only [Act.put, List.setIfInBounds_toArray, List.set_cons_zero, List.set_cons_succ]
    refine wpAnyH_take (i := 18) (oi := ⟨some 44, _, _, _, _, _⟩) (v := undef) rfl (by kernel_rfl) (by kernel_rfl) (by kernel_rfl) (fun _ _ _ h => h) (Or.inr ⟨by kernel_rfl, rfl⟩) (by assumption) ?_
    try simp only [Act.put, List.setIfInBounds_toArray, List.set_cons_zero, List.set_cons_succ]
    refine wpAnyH_take (i := 19) (oi := ⟨some 45, _, _, _, _, _⟩) (v := undef) rfl (by kernel_rfl) (by kernel_rfl) (by kernel_rfl) (fun _ _ _ h => h) (Or.inr ⟨by kernel_rfl, rfl⟩) (by assumption) ?_
    try simp only [Act.put, List.setIfInBounds_toArray, List.set_cons_zero, List.set_cons_succ]
    refine wpAnyH_take (i := 20) (oi := ⟨some 46, _, _, _, _, _⟩) (v := undef) rfl (by kernel_rfl) (by kernel_rfl) (by kernel_rfl) (fun _ _ _ h => h) (Or.inr ⟨by kernel_rfl, rfl⟩) (by assumption) ?_
    try simp only [Act.put, List.setIfInBounds_toArray, List.set_cons_zero, List.set_cons_succ]
    refine wpAnyH_take (i := 21) (oi := ⟨some 47, _, _, _, _, _⟩) (v := undef) rfl (by kernel_rfl) (by kernel_rfl) (by kernel_rfl) (fun _ _ _ h => h) (Or.inr ⟨by kernel_rfl, rfl⟩) (by assumption) ?_
    try simp only [Act.put, List.setIfInBounds_toArray, List.set_cons_zero, List.set_cons_succ]
    refine wpAnyH_take (i := 22) (oi := ⟨some 48, _, _, _, _, _⟩) (v := undef) rfl (by kernel_rfl) (by kernel_rfl) (by kernel_rfl) (fun _ _ _ h => h) (Or.inr ⟨by kernel_rfl, rfl⟩) (by assumption) ?_
    try simp only [Act.put, List.setIfInBounds_toArray, List.set_cons_zero, List.set_cons_succ]
    refine wpAnyH_take (i := 23) (oi := ⟨some 49, _, _, _, _, _⟩) (v := undef) rfl (by kernel_rfl) (by kernel_rfl) (by kernel_rfl) (fun _ _ _ h => h) (Or.inr ⟨by kernel_rfl, rfl⟩) (by assumption) ?_
    try simp only [Act.put, List.setIfInBounds_toArray, List.set_cons_zero, List.set_cons_succ]
    refine wpAnyH_take (i := 24) (oi := ⟨some 50, _, _, _, _, _⟩) (v := undef) rfl (by kernel_rfl) (by kernel_rfl) (by kernel_rfl) (fun _ _ _ h => h) (Or.inr ⟨by kernel_rfl, rfl⟩) (by assumption) ?_
    try simp only [Act.put, List.setIfInBounds_toArray, List.set_cons_zero, List.set_cons_succ]
    refine wpAnyH_take (i := 25) (oi := ⟨some 51, _, _, _, _, _⟩) (v := ?_) rfl (by kernel_rfl) (by kernel_rfl) (by kernel_rfl) (fun _ _ _ h => h) (Or.inl ⟨by kernel_rfl, ?_⟩) (by assumption) ?_
    rotate_left
    · intro w hSw; (try dsimp only at hSw); go_simp; try with_reducible rfl
    try simp only [Act.put, List.setIfInBounds_toArray, List.set_cons_zero, List.set_cons_succ]
    refine wpAnyH_take (i := 26) (oi := ⟨some 52, _, _, _, _, _⟩) (v := ?_) rfl (by kernel_rfl) (by kernel_rfl) (by kernel_rfl) (fun _ _ _ h => h) (Or.inl ⟨by kernel_rfl, ?_⟩) (by assumption) ?_
    rotate_left
    · intro w hSw; (try dsimp only at hSw); go_simp; try with_reducible rfl
    try simp only [Act.put, List.setIfInBounds_toArray, List.set_cons_zero, List.set_cons_succ]
    refine wpAnyH_take (i := 27) (oi := ⟨some 4, _, _, _, _, _⟩) (v := ?_) rfl (by kernel_rfl) (by kernel_rfl) (by kernel_rfl) (fun _ _ _ h => h) (Or.inl ⟨by kernel_rfl, ?_⟩) (by assumption) ?_
    rotate_left
    · intro w hSw; (try dsimp only at hSw); go_simp; try with_reducible rfl
    try simp only [Act.put, List.setIfInBounds_toArray, List.set_cons_zero, List.set_cons_succ]
    refine wpAnyH_done (by kernel_rfl) ?_ _
    go_wp2_with fail
    go_ret
    exact ⟨by cases q <;> kernel_rfl, by first | exact B7.out | exact B7.out.drew⟩
  · go_enter Tryz.func6, Tryz.ntmps6
    go_wp2_with (go_at_call 12; (with_reducible refine (GA.out _ HB0.out).mono ?_); rintro e w1 ⟨rfl, hb1⟩; have B1 := Lib.hid (HB0.out.trans (hb1.mono HB0.out.size)); have kA1 : ∀ j, w1.cell? ⟨w.heap.size, j, none⟩ = (#[.int .i64 a.freq, .int .i64 a.interval, .int .i64 a.count, .int .i64 a.until_, .slice oma nma cma, .slice oda nda cda, .slice oya nya cya, .slice opa npa cpa, .int .i64 a.start] : Array Value)[j]? := fun j => (hb1.cell (p := ⟨w.heap.size, j, none⟩) (by simp; omega)).trans (cell_of_row _ _ _ _ _ _ (heap_alloc2_old _ _ _)); have kB1 : ∀ j, w1.cell? ⟨w.heap.size + 1, j, none⟩ = (#[.int .i64 b.freq, .int .i64 b.interval, .int .i64 b.count, .int .i64 b.until_, .slice omb nmb cmb, .slice odb ndb cdb, .slice oyb nyb cyb, .slice opb npb cpb, .int .i64 b.start] : Array Value)[j]? := fun j => (hb1.cell (p := ⟨w.heap.size + 1, j, none⟩) (by simp)).trans (cell_of_row _ _ _ _ _ _ (heap_alloc2_new _ _ _)); have z1 : w.heap.size + 1 < w1.heap.size := Nat.lt_of_lt_of_le (by simp) hb1.size; clear hb1)
    go_wp2_with (go_at_call 12; (with_reducible refine (GB.out _ B1.out).mono ?_); rintro e w2 ⟨rfl, hb2⟩; have B2 := Lib.hid (B1.out.trans (hb2.mono B1.out.size)); have kA2 : ∀ j, w2.cell? ⟨w.heap.size, j, none⟩ = (#[.int .i64 a.freq, .int .i64 a.interval, .int .i64 a.count, .int .i64 a.until_, .slice oma nma cma, .slice oda nda cda, .slice oya nya cya, .slice opa npa cpa, .int .i64 a.start] : Array Value)[j]? := fun j => (hb2.cell (p := ⟨w.heap.size, j, none⟩) (by simp only; omega)).trans (kA1 j); have kB2 : ∀ j, w2.cell? ⟨w.heap.size + 1, j, none⟩ = (#[.int .i64 b.freq, .int .i64 b.interval, .int .i64 b.count, .int .i64 b.until_, .slice omb nmb cmb, .slice odb ndb cdb, .slice oyb nyb cyb, .slice opb npb cpb, .int .i64 b.start] : Array Value)[j]? := fun j => (hb2.cell (p := ⟨w.heap.size + 1, j, none⟩) (by simp only; omega)).trans (kB1 j); have z2 : w.heap.size + 1 < w2.heap.size := Nat.lt_of_lt_of_le z1 hb2.size; clear hb2)
    go_wp2_with (go_at_call 13; (with_reducible refine (TA.out _ B2.out).mono ?_); rintro e w3 ⟨rfl, hb3⟩; have B3 := Lib.hid (B2.out.trans (hb3.mono B2.out.size)); have kA3 : ∀ j, w3.cell? ⟨w.heap.size, j, none⟩ = (#[.int .i64 a.freq, .int .i64 a.interval, .int .i64 a.count, .int .i64 a.until_, .slice oma nma cma, .slice oda nda cda, .slice oya nya cya, .slice opa npa cpa, .int .i64 a.start] : Array Value)[j]? := fun j => (hb3.cell (p := ⟨w.heap.size, j, none⟩) (by simp only; omega)).trans (kA2 j); have kB3 : ∀ j, w3.cell? ⟨w.heap.size + 1, j, none⟩ = (#[.int .i64 b.freq, .int .i64 b.interval, .int .i64 b.count, .int .i64 b.until_, .slice omb nmb cmb, .slice odb ndb cdb, .slice oyb nyb cyb, .slice opb npb cpb, .int .i64 b.start] : Array Value)[j]? := fun j => (hb3.cell (p := ⟨w.heap.size + 1, j, none⟩) (by simp only; omega)).trans (kB2 j); have z3 : w.heap.size + 1 < w3.heap.size := Nat.lt_of_lt_of_le z2 hb3.size; clear hb3)
    go_wp2_with (go_at_call 13; (with_reducible refine (TB.out _ B3.out).mono ?_); rintro e w4 ⟨rfl, hb4⟩; have B4 := Lib.hid (B3.out.trans (hb4.mono B3.out.size)); have kA4 : ∀ j, w4.cell? ⟨w.heap.size, j, none⟩ = (#[.int .i64 a.freq, .int .i64 a.interval, .int .i64 a.count, .int .i64 a.until_, .slice oma nma cma, .slice oda nda cda, .slice oya nya cya, .slice opa npa cpa, .int .i64 a.start] : Array Value)[j]? := fun j => (hb4.cell (p := ⟨w.heap.size, j, none⟩) (by simp only; omega)).trans (kA3 j); have kB4 : ∀ j, w4.cell? ⟨w.heap.size + 1, j, none⟩ = (#[.int .i64 b.freq, .int .i64 b.interval, .int .i64 b.count, .int .i64 b.until_, .slice omb nmb cmb, .slice odb ndb cdb, .slice oyb nyb cyb, .slice opb npb cpb, .int .i64 b.start] : Array Value)[j]? := fun j => (hb4.cell (p := ⟨w.heap.size + 1, j, none⟩) (by simp only; omega)).trans (kB3 j); have z4 : w.heap.size + 1 < w4.heap.size := Nat.lt_of_lt_of_le z3 hb4.size; clear hb4)
    have hS4 : (∀ j, w4.cell? ⟨w.heap.size, j, none⟩ = (#[.int .i64 a.freq, .int .i64 a.interval, .int .i64 a.count, .int .i64 a.until_, .slice oma nma cma, .slice oda nda cda, .slice oya nya cya, .slice opa npa cpa, .int .i64 a.start] : Array Value)[j]?) ∧ (∀ j, w4.cell? ⟨w.heap.size + 1, j, none⟩ = (#[.int .i64 b.freq, .int .i64 b.interval, .int .i64 b.count, .int .i64 b.until_, .slice omb nmb cmb, .slice odb ndb cdb, .slice oyb nyb cyb, .slice opb npb cpb, .int .i64 b.start] : Array Value)[j]?) := ⟨kA4, kB4⟩
    clear kA1 kB1 kA2 kB2 kA3 kB3 kA4 kB4 z1 z2 z3
    have hSd : (∀ j, w4.drew.cell? ⟨w.heap.size, j, none⟩ = (#[.int .i64 a.freq, .int .i64 a.interval, .int .i64 a.count, .int .i64 a.until_, .slice oma nma cma, .slice oda nda cda, .slice oya nya cya, .slice opa npa cpa, .int .i64 a.start] : Array Value)[j]?) ∧ (∀ j, w4.drew.cell? ⟨w.heap.size + 1, j, none⟩ = (#[.int .i64 b.freq, .int .i64 b.interval, .int .i64 b.count, .int .i64 b.until_, .slice omb nmb cmb, .slice odb ndb cdb, .slice oyb nyb cyb, .slice opb npb cpb, .int .i64 b.start] : Array Value)[j]?) := hS4
    refine wp_region_held_drew (S := (fun W' => (∀ j, W'.cell? ⟨w.heap.size, j, none⟩ = (#[.int .i64 a.freq, .int .i64 a.interval, .int .i64 a.count, .int .i64 a.until_, .slice oma nma cma, .slice oda nda cda, .slice oya nya cya, .slice opa npa cpa, .int .i64 a.start] : Array Value)[j]?) ∧ (∀ j, W'.cell? ⟨w.heap.size + 1, j, none⟩ = (#[.int .i64 b.freq, .int .i64 b.interval, .int .i64 b.count, .int .i64 b.until_, .slice omb nmb cmb, .slice odb ndb cdb, .slice oyb nyb cyb, .slice opb npb cpb, .int .i64 b.start] : Array Value)[j]?))) (by kernel_rfl) hSd (fun hHeld => ?_)
    simp only [List.size_toArray, List.length_cons, List.length_nil, Nat.reduceAdd, Array.replicate_succ, Array.replicate_zero, List.push_toArray, List.nil_append, List.cons_append]
    refine wpAnyH_ready (rs := [0]) (by kernel_rfl) (by simp) ?_
    refine AllReadyH.cons rfl (fun K hK => ?_) AllReadyH.nil
    go_simp
    go_at_call 7; (with_reducible refine (FX.out _ (by first | exact B4.out | exact B4.out.drew)).mono ?_); rintro e w5 ⟨rfl, hb5⟩; have B5 := Lib.hid (show Below w.heap.size w w5 from (B4.out.drew).trans (Below.mono (show Below w4.drew.heap.size w4.drew w5 from ⟨hb5.os, hb5.tape, hb5.output, hb5.size, hb5.block⟩) B4.out.size)); have z5 : w.heap.size + 1 < w5.heap.size := Nat.lt_of_lt_of_le z4 (show w4.heap.size ≤ w5.heap.size from hb5.size); have hS5 := And.intro (fun j => (hb5.cell (p := ⟨w.heap.size, j, none⟩) (show w.heap.size < w4.heap.size by omega)).trans (hS4.1 j)) (fun j => (hb5.cell (p := ⟨w.heap.size + 1, j, none⟩) z4).trans (hS4.2 j)); clear hb5
    go_simp
    refine hK.out _ _ hS5 (fun hHeld => ?_)
    clear hK K
    try simp only [Act.put, List.setIfInBounds_toArray, List.set_cons_zero, List.set_cons_succ]
    refine wpAnyH_take (i := 1) (oi := ⟨some 27, _, _, _, _, _⟩) (v := ?_) rfl (by kernel_rfl) (by kernel_rfl) (by kernel_rfl) (fun _ _ _ h => h) (Or.inl ⟨by kernel_rfl, ?_⟩) (by assumption) ?_
    rotate_left
    · intro w hSw; (try dsimp only at hSw); go_simp; try with_reducible rfl
    try simp only [Act.put, List.setIfInBounds_toArray, List.set_cons_zero, List.set_cons_succ]
    refine wpAnyH_take (i := 2) (oi := ⟨some 28, _, _, _, _, _⟩) (v := ?_) rfl (by kernel_rfl) (by kernel_rfl) (by kernel_rfl) (fun _ _ _ h => h) (Or.inl ⟨by kernel_rfl, ?_⟩) (by assumption) ?_
    rotate_left
    · intro w hSw; (try dsimp only at hSw); go_simp; try with_reducible rfl
    try simp only [Act.put, List.setIfInBounds_toArray, List.set_cons_zero, List.set_cons_succ]
    refine wpAnyH_take (i := 3) (oi := ⟨some 29, _, _, _, _, _⟩) (v := ?_) rfl (by kernel_rfl) (by kernel_rfl) (by kernel_rfl) (fun _ _ _ h => h) (Or.inl ⟨by kernel_rfl, ?_⟩) (by assumption) ?_
    rotate_left
    · intro w hSw; (try dsimp only at hSw); go_simp; try with_reducible rfl
    try simp only [Act.put, List.setIfInBounds_toArray, List.set_cons_zero, List.set_cons_succ]
    refine wpAnyH_take (i := 5) (oi := ⟨some 31, _, _, _, _, _⟩) (v := ?_) rfl (by kernel_rfl) (by kernel_rfl) (by kernel_rfl) (fun _ _ _ h => h) (Or.inl ⟨by kernel_rfl, ?_⟩) (by assumption) ?_
    rotate_left
    · intro w hSw; (try dsimp only at hSw); go_simp; try with_reducible rfl
    try simp only [Act.put, List.setIfInBounds_toArray, List.set_cons_zero, List.set_cons_succ]
    refine wpAnyH_take (i := 6) (oi := ⟨some 32, _, _, _, _, _⟩) (v := ?_) rfl (by kernel_rfl) (by kernel_rfl) (by kernel_rfl) (fun _ _ _ h => h) (Or.inl ⟨by kernel_rfl, ?_⟩) (by assumption) ?_
    rotate_left
    · intro w hSw; (try dsimp only at hSw); go_simp; try with_reducible rfl
    try simp only [Act.put, List.setIfInBounds_toArray, List.set_cons_zero, List.set_cons_succ]
    refine wpAnyH_ready (rs := [4]) (by kernel_rfl) (by simp) ?_
    refine AllReadyH.cons rfl (fun K hK => ?_) AllReadyH.nil
    go_simp
    go_at_call 15; (with_reducible refine (ES.out _ (by first | exact B5.out | exact B5.out.drew)).mono ?_); rintro e w6 ⟨rfl, hb6⟩; have B6 := Lib.hid (show Below w.heap.size w w6 from (B5.out.drew).trans (Below.mono (show Below w5.drew.heap.size w5.drew w6 from ⟨hb6.os, hb6.tape, hb6.output, hb6.size, hb6.block⟩) B5.out.size)); have z6 : w.heap.size + 1 < w6.heap.size := Nat.lt_of_lt_of_le z5 (show w5.heap.size ≤ w6.heap.size from hb6.size); have hS6 := And.intro (fun j => (hb6.cell (p := ⟨w.heap.size, j, none⟩) (show w.heap.size < w5.heap.size by omega)).trans (hS5.1 j)) (fun j => (hb6.cell (p := ⟨w.heap.size + 1, j, none⟩) z5).trans (hS5.2 j)); clear hb6
    go_simp
    refine hK.out _ _ hS6 (fun hHeld => ?_)
    clear hK K
    try simp only [Act.put, List.setIfInBounds_toArray, List.set_cons_zero, List.set_cons_succ]
    refine wpAnyH_ready (rs := [7]) (by kernel_rfl) (by simp) ?_
    refine AllReadyH.cons rfl (fun K hK => ?_) AllReadyH.nil
    go_simp
    go_at_call 9; (with_reducible refine (ER.out _ (by first | exact B6.out | exact B6.out.drew)).mono ?_); rintro e w7 ⟨rfl, hb7⟩; have B7 := Lib.hid (show Below w.heap.size w w7 from (B6.out.drew).trans (Below.mono (show Below w6.drew.heap.size w6.drew w7 from ⟨hb7.os, hb7.tape, hb7.output, hb7.size, hb7.block⟩) B6.out.size)); have z7 : w.heap.size + 1 < w7.heap.size := Nat.lt_of_lt_of_le z6 (show w6.heap.size ≤ w7.heap.size from hb7.size); have hS7 := And.intro (fun j => (hb7.cell (p := ⟨w.heap.size, j, none⟩) (show w.heap.size < w6.heap.size by omega)).trans (hS6.1 j)) (fun j => (hb7.cell (p := ⟨w.heap.size + 1, j, none⟩) z6).trans (hS6.2 j)); clear hb7
    go_simp
    refine hK.out _ _ hS7 (fun hHeld => ?_)
    clear hK K
    try simp only [Act.put, List.setIfInBounds_toArray, List.set_cons_zero, List.set_cons_succ]
    refine wpAnyH_take (i := 8) (oi := ⟨some 34, _, _, _, _, _⟩) (v := ?_) rfl (by kernel_rfl) (by kernel_rfl) (by kernel_rfl) (fun _ _ _ h => h) (Or.inl ⟨by kernel_rfl, ?_⟩) (by assumption) ?_
    rotate_left
    · intro w hSw; (try dsimp only at hSw); go_simp; try with_reducible rfl
    try simp only [Act.put, List.setIfInBounds_toArray, List.set_cons_zero, List.set_cons_succ]
    refine wpAnyH_take (i := 9) (oi := ⟨some 35, _, _, _, _, _⟩) (v := ?_) rfl (by kernel_rfl) (by kernel_rfl) (by kernel_rfl) (fun _ _ _ h => h) (Or.inl ⟨by kernel_rfl, ?_⟩) (by assumption) ?_
    rotate_left
    · intro w hSw; (try dsimp only at hSw); go_simp; try with_reducible rfl
    try simp only [Act.put, List.setIfInBounds_toArray, List.set_cons_zero, List.set_cons_succ]
    refine wpAnyH_take (i := 10) (oi := ⟨some 36, _, _, _, _, _⟩) (v := ?_) rfl (by kernel_rfl) (by kernel_rfl) (by kernel_rfl) (fun _ _ _ h => h) (Or.inl ⟨by kernel_rfl, ?_⟩) (by assumption) ?_
    rotate_left
    · intro w hSw; (try dsimp only at hSw); go_simp; try with_reducible rfl
    try simp only [Act.put, List.setIfInBounds_toArray, List.set_cons_zero, List.set_cons_succ]
    refine wpAnyH_take (i := 11) (oi := ⟨some 37, _, _, _, _, _⟩) (v := ?_) rfl (by kernel_rfl) (by kernel_rfl) (by kernel_rfl) (fun _ _ _ h => h) (Or.inl ⟨by kernel_rfl, ?_⟩) (by assumption) ?_
    rotate_left
    · intro w hSw; (try dsimp only at hSw); go_simp; try with_reducible rfl
    try simp only [Act.put, List.setIfInBounds_toArray, List.set_cons_zero, List.set_cons_succ]
    refine wpAnyH_take (i := 12) (oi := ⟨some 38, _, _, _, _, _⟩) (v := ?_) rfl (by kernel_rfl) (by kernel_rfl) (by kernel_rfl) (fun _ _ _ h => h) (Or.inl ⟨by kernel_rfl, ?_⟩) (by assumption) ?_
    rotate_left
    · intro w hSw; (try dsimp only at hSw); go_simp; try with_reducible rfl
    try simp only [Act.put, List.setIfInBounds_toArray, List.set_cons_zero, List.set_cons_succ]
    refine wpAnyH_take (i := 13) (oi := ⟨some 39, _, _, _, _, _⟩) (v := ?_) rfl (by kernel_rfl) (by kernel_rfl) (by kernel_rfl) (fun _ _ _ h => h) (Or.inl ⟨by kernel_rfl, ?_⟩) (by assumption) ?_
    rotate_left
    · intro w hSw; (try dsimp only at hSw); go_simp; try with_reducible rfl
    try simp only [Act.put, List.setIfInBounds_toArray, List.set_cons_zero, List.set_cons_succ]
    refine wpAnyH_take (i := 14) (oi := ⟨some 40, _, _, _, _, _⟩) (v := ?_) rfl (by kernel_rfl) (by kernel_rfl) (by kernel_rfl) (fun _ _ _ h => h) (Or.inl ⟨by kernel_rfl, ?_⟩) (by assumption) ?_
    rotate_left
    · intro w hSw; (try dsimp only at hSw); go_simp; try with_reducible rfl
    try simp only [Act.put, List.setIfInBounds_toArray, List.set_cons_zero, List.set_cons_succ]
    refine wpAnyH_take (i := 15) (oi := ⟨some 41, _, _, _, _, _⟩) (v := ?_) rfl (by kernel_rfl) (by kernel_rfl) (by kernel_rfl) (fun _ _ _ h => h) (Or.inl ⟨by kernel_rfl, ?_⟩) (by assumption) ?_
    rotate_left
    · intro w hSw; (try dsimp only at hSw); go_simp; try with_reducible rfl
    try simp only [Act.put, List.setIfInBounds_toArray, List.set_cons_zero, List.set_cons_succ]
    refine wpAnyH_take (i := 16) (oi := ⟨some 42, _, _, _, _, _⟩) (v := ?_) rfl (by kernel_rfl) (by kernel_rfl) (by kernel_rfl) (fun _ _ _ h => h) (Or.inl ⟨by kernel_rfl, ?_⟩) (by assumption) ?_
    rotate_left
    · intro w hSw; (try dsimp only at hSw); go_simp; try with_reducible rfl
    try simp only [Act.put, List.setIfInBounds_toArray, List.set_cons_zero, List.set_cons_succ]
    refine wpAnyH_take (i := 17) (oi := ⟨some 43, _, _, _, _, _⟩) (v := ?_) rfl (by kernel_rfl) (by kernel_rfl) (by kernel_rfl) (fun _ _ _ h => h) (Or.inl ⟨by kernel_rfl, ?_⟩) (by assumption) ?_
    rotate_left
    · intro w hSw; (try dsimp only at hSw); go_simp; try with_reducible rfl
    try simp only [Act.put, List.setIfInBounds_toArray, List.set_cons_zero, List.set_cons_succ]
    refine wpAnyH_take (i := 18) (oi := ⟨some 44, _, _, _, _, _⟩) (v := undef) rfl (by kernel_rfl) (by kernel_rfl) (by kernel_rfl) (fun _ _ _ h => h) (Or.inr ⟨by kernel_rfl, rfl⟩) (by assumption) ?_
    try simp only [Act.put, List.setIfInBounds_toArray, List.set_cons_zero, List.set_cons_succ]
    refine wpAnyH_take (i := 19) (oi := ⟨some 45, _, _, _, _, _⟩) (v := undef) rfl (by kernel_rfl) (by kernel_rfl) (by kernel_rfl) (fun _ _ _ h => h) (Or.inr ⟨by kernel_rfl, rfl⟩) (by assumption) ?_
    try simp only [Act.put, List.setIfInBounds_toArray, List.set_cons_zero, List.set_cons_succ]
    refine wpAnyH_take (i := 20) (oi := ⟨some 46, _, _, _, _, _⟩) (v := undef) rfl (by kernel_rfl) (by kernel_rfl) (by kernel_rfl) (fun _ _ _ h => h) (Or.inr ⟨by kernel_rfl, rfl⟩) (by assumption) ?_
    try simp only [Act.put, List.setIfInBounds_toArray, List.set_cons_zero, List.set_cons_succ]
    refine wpAnyH_take (i := 21) (oi := ⟨some 47, _, _, _, _, _⟩) (v := undef) rfl (by kernel_rfl) (by kernel_rfl) (by kernel_rfl) (fun _ _ _ h => h) (Or.inr ⟨by kernel_rfl, rfl⟩) (by assumption) ?_
    try simp only [Act.put, List.setIfInBounds_toArray, List.set_cons_zero, List.set_cons_succ]
    refine wpAnyH_take (i := 22) (oi := ⟨some 48, _, _, _, _, _⟩) (v := undef) rfl (by kernel_rfl) (by kernel_rfl) (by kernel_rfl) (fun _ _ _ h => h) (Or.inr ⟨by kernel_rfl, rfl⟩) (by assumption) ?_
    try simp only [Act.put, List.setIfInBounds_toArray, List.set_cons_zero, List.set_cons_succ]
    refine wpAnyH_take (i := 23) (oi := ⟨some 49, _, _, _, _, _⟩) (v := undef) rfl (by kernel_rfl) (by kernel_rfl) (by kernel_rfl) (fun _ _ _ h => h) (Or.inr ⟨by kernel_rfl, rfl⟩) (by assumption) ?_
    try simp only [Act.put, List.setIfInBounds_toArray, List.set_cons_zero, List.set_cons_succ]
    refine wpAnyH_take (i := 24) (oi := ⟨some 50, _, _, _, _, _⟩) (v := undef) rfl (by kernel_rfl) (by kernel_rfl) (by kernel_rfl) (fun _ _ _ h => h) (Or.inr ⟨by kernel_rfl, rfl⟩) (by assumption) ?_
    try simp only [Act.put, List.setIfInBounds_toArray, List.set_cons_zero, List.set_cons_succ]
    refine wpAnyH_take (i := 25) (oi := ⟨some 51, _, _, _, _, _⟩) (v := ?_) rfl (by kernel_rfl) (by kernel_rfl) (by kernel_rfl) (fun _ _ _ h => h) (Or.inl ⟨by kernel_rfl, ?_⟩) (by assumption) ?_
    rotate_left
    · intro w hSw; (try dsimp only at hSw); go_simp; try with_reducible rfl
    try simp only [Act.put, List.setIfInBounds_toArray, List.set_cons_zero, List.set_cons_succ]
    refine wpAnyH_take (i := 26) (oi := ⟨some 52, _, _, _, _, _⟩) (v := ?_) rfl (by kernel_rfl) (by kernel_rfl) (by kernel_rfl) (fun _ _ _ h => h) (Or.inl ⟨by kernel_rfl, ?_⟩) (by assumption) ?_
    rotate_left
    · intro w hSw; (try dsimp only at hSw); go_simp; try with_reducible rfl
    try simp only [Act.put, List.setIfInBounds_toArray, List.set_cons_zero, List.set_cons_succ]
    refine wpAnyH_take (i := 27) (oi := ⟨some 4, _, _, _, _, _⟩) (v := ?_) rfl (by kernel_rfl) (by kernel_rfl) (by kernel_rfl) (fun _ _ _ h => h) (Or.inl ⟨by kernel_rfl, ?_⟩) (by assumption) ?_
    rotate_left
    · intro w hSw; (try dsimp only at hSw); go_simp; try with_reducible rfl
    try simp only [Act.put, List.setIfInBounds_toArray, List.set_cons_zero, List.set_cons_succ]
    refine wpAnyH_done (by kernel_rfl) ?_ _
    go_wp2_with fail
    go_ret
    exact ⟨by cases q <;> kernel_rfl, by first | exact B7.out | exact B7.out.drew⟩
end Go.Proofs.YtcleicjgeflbnaaGreatDoor
