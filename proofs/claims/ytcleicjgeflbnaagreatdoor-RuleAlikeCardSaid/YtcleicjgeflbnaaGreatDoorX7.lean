/- The walk of the law RuleAlike at two rules that may be: it answers true. Conditions: neither is great, the tables are laid, the errors of strconv lie in their boxes. -/
import Derived.Test.YtcleicjgeflbnaaGreatDoorX6
import Derived.Deep.DrawnRows
namespace Go.Proofs.YtcleicjgeflbnaaGreatDoor
open Go.RowKit Go.ChangeShapes Go.WideShapes Go.Deep
set_option linter.all false
attribute [local go_sem ↓] Go.wp_at_zero Go.wp_at_succ

set_option maxRecDepth 100000 in
set_option maxHeartbeats 20000000 in
theorem alike_both (ca cb : List Value) (a b : RuleD) (w : World) (ha : rRule w ca a) (hb : rRule w cb b) (hL : Laid w) (hE : Errs w) (hga : ¬ greatR a) (hgb : ¬ greatR b) (hma : mayR a) (hmb : mayR b) :
    Calls Tryz.prog 6 #[.agg ca.toArray, .agg cb.toArray] w fun e w' => e = .returned (.bool true) ∧ Below w.heap.size w w' := by
  have SA := Lib.hid ha; have SB := Lib.hid hb; have HL := Lib.hid hL; have HE := Lib.hid hE
  obtain ⟨ma, da, ya, pa, rfl, -, -, -, -, -, rma, rda, rya, rpa⟩ := ha
  obtain ⟨oma, nma, cma, rfl, -, -, -, Rma⟩ := rma.open
  obtain ⟨oda, nda, cda, rfl, -, -, -, Rda⟩ := rda.open
  obtain ⟨oya, nya, cya, rfl, -, -, -, Rya⟩ := rya.open
  obtain ⟨opa, npa, cpa, rfl, -, -, -, Rpa⟩ := rpa.open
  clear rma rda rya rpa Rma Rda Rya Rpa
  obtain ⟨mb, db, yb, pb, rfl, -, -, -, -, -, rmb, rdb, ryb, rpb⟩ := hb
  obtain ⟨omb, nmb, cmb, rfl, -, -, -, Rmb⟩ := rmb.open
  obtain ⟨odb, ndb, cdb, rfl, -, -, -, Rdb⟩ := rdb.open
  obtain ⟨oyb, nyb, cyb, rfl, -, -, -, Ryb⟩ := ryb.open
  obtain ⟨opb, npb, cpb, rfl, -, -, -, Rpb⟩ := rpb.open
  clear rmb rdb ryb rpb Rmb Rdb Ryb Rpb
  have GA := Lib.hid (fun (W : World) (hb : Below w.heap.size w W) => c_f (great_any _ a W (SA.out.later hb)) hga)
  have GB := Lib.hid (fun (W : World) (hb : Below w.heap.size w W) => c_f (great_any _ b W (SB.out.later hb)) hgb)
  have FX := Lib.hid (fun (W : World) (hb : Below w.heap.size w W) => fixed_any W (HL.out.later hb) (HE.out.later hb))
  have HB0 := Lib.hid (show Below w.heap.size w ((w.alloc (.cells #[.int .i64 a.freq, .int .i64 a.interval, .int .i64 a.count, .int .i64 a.until_, .slice oma nma cma, .slice oda nda cda, .slice oya nya cya, .slice opa npa cpa, .int .i64 a.start] 26)).alloc (.cells #[.int .i64 b.freq, .int .i64 b.interval, .int .i64 b.count, .int .i64 b.until_, .slice omb nmb cmb, .slice odb ndb cdb, .slice oyb nyb cyb, .slice opb npb cpb, .int .i64 b.start] 26)) from belowA _ (belowA _ (Below.refl _ _)))
  obtain ⟨oa, hoa⟩ : ∃ g, g = dec (mayR a) := ⟨_, rfl⟩
  obtain ⟨ob, hob⟩ : ∃ g, g = dec (mayR b) := ⟨_, rfl⟩
  obtain ⟨X, hX⟩ : ∃ X, X = if oa then toB (textR shortT a) else ⟨#[]⟩ := ⟨_, rfl⟩
  obtain ⟨Y, hY⟩ : ∃ Y, Y = if ob then toB (textR shortT b) else ⟨#[]⟩ := ⟨_, rfl⟩
  have TA := Lib.hid (fun (W : World) (hb : Below w.heap.size w W) => text_any _ a W (SA.out.later hb) (few_of hga) (HL.out.later hb) X oa hoa hX)
  have TB := Lib.hid (fun (W : World) (hb : Below w.heap.size w W) => text_any _ b W (SB.out.later hb) (few_of hgb) (HL.out.later hb) Y ob hob hY)
  obtain ⟨q, hq⟩ : ∃ q, q = dec (a = b) := ⟨_, rfl⟩
  have ES := Lib.hid (fun (W : World) (hb : Below w.heap.size w W) => same_any _ _ a b W (SA.out.later hb) (SB.out.later hb))
  have ER := Lib.hid (fun (W : World) (hb : Below w.heap.size w W) => rule_any _ _ a b W (SA.out.later hb) (SB.out.later hb))
  rw [← hq] at ES ER
  have hc : oa = true ∧ ob = true ∧ (X.toList == Y.toList) = q := by
    refine ⟨by rw [hoa]; exact dec_t hma, by rw [hob]; exact dec_t hmb, ?_⟩
    rw [hX, hY, hoa, hob, dec_t hma, dec_t hmb, if_pos rfl, if_pos rfl, hq, ByteArray.toList_eq, ByteArray.toList_eq, toB_data, toB_data]
    by_cases e : a = b
    · rw [dec_t e, e]; simp
    · rw [dec_f e, beq_eq_false_iff_ne]
      exact fun h => e (textR_inj hma hmb h)
  have hqq : (q == q) = true := by simp
  clear hL hE hga hgb hoa hob hX hY hq hma hmb
  obtain ⟨rfl, rfl, hxy⟩ := hc
  · go_enter Tryz.func6, Tryz.ntmps6
    go_wp2_with (go_at_call 12; (with_reducible refine (GA.out _ HB0.out).mono ?_); rintro e w1 ⟨rfl, hb1⟩; have B1 := Lib.hid (HB0.out.trans (hb1.mono HB0.out.size)); have kA1 : ∀ j, w1.cell? ⟨w.heap.size, j, none⟩ = (#[.int .i64 a.freq, .int .i64 a.interval, .int .i64 a.count, .int .i64 a.until_, .slice oma nma cma, .slice oda nda cda, .slice oya nya cya, .slice opa npa cpa, .int .i64 a.start] : Array Value)[j]? := fun j => (hb1.cell (p := ⟨w.heap.size, j, none⟩) (by simp; omega)).trans (cell_of_row _ _ _ _ _ _ (heap_alloc2_old _ _ _)); have kB1 : ∀ j, w1.cell? ⟨w.heap.size + 1, j, none⟩ = (#[.int .i64 b.freq, .int .i64 b.interval, .int .i64 b.count, .int .i64 b.until_, .slice omb nmb cmb, .slice odb ndb cdb, .slice oyb nyb cyb, .slice opb npb cpb, .int .i64 b.start] : Array Value)[j]? := fun j => (hb1.cell (p := ⟨w.heap.size + 1, j, none⟩) (by simp)).trans (cell_of_row _ _ _ _ _ _ (heap_alloc2_new _ _ _)); have z1 : w.heap.size + 1 < w1.heap.size := Nat.lt_of_lt_of_le (by simp) hb1.size; clear hb1)
    go_wp2_with (go_at_call 12; (with_reducible refine (GB.out _ B1.out).mono ?_); rintro e w2 ⟨rfl, hb2⟩; have B2 := Lib.hid (B1.out.trans (hb2.mono B1.out.size)); have kA2 : ∀ j, w2.cell? ⟨w.heap.size, j, none⟩ = (#[.int .i64 a.freq, .int .i64 a.interval, .int .i64 a.count, .int .i64 a.until_, .slice oma nma cma, .slice oda nda cda, .slice oya nya cya, .slice opa npa cpa, .int .i64 a.start] : Array Value)[j]? := fun j => (hb2.cell (p := ⟨w.heap.size, j, none⟩) (by simp only; omega)).trans (kA1 j); have kB2 : ∀ j, w2.cell? ⟨w.heap.size + 1, j, none⟩ = (#[.int .i64 b.freq, .int .i64 b.interval, .int .i64 b.count, .int .i64 b.until_, .slice omb nmb cmb, .slice odb ndb cdb, .slice oyb nyb cyb, .slice opb npb cpb, .int .i64 b.start] : Array Value)[j]? := fun j => (hb2.cell (p := ⟨w.heap.size + 1, j, none⟩) (by simp only; omega)).trans (kB1 j); have z2 : w.heap.size + 1 < w2.heap.size := Nat.lt_of_lt_of_le z1 hb2.size; clear hb2)
    go_wp2_with (go_at_call 13; (with_reducible refine (TA.out _ B2.out).mono ?_); rintro e w3 ⟨rfl, hb3⟩; have B3 := Lib.hid (B2.out.trans (hb3.mono B2.out.size)); have kA3 : ∀ j, w3.cell? ⟨w.heap.size, j, none⟩ = (#[.int .i64 a.freq, .int .i64 a.interval, .int .i64 a.count, .int .i64 a.until_, .slice oma nma cma, .slice oda nda cda, .slice oya nya cya, .slice opa npa cpa, .int .i64 a.start] : Array Value)[j]? := fun j => (hb3.cell (p := ⟨w.heap.size, j, none⟩) (by simp only; omega)).trans (kA2 j); have kB3 : ∀ j, w3.cell? ⟨w.heap.size + 1, j, none⟩ = (#[.int .i64 b.freq, .int .i64 b.interval, .int .i64 b.count, .int .i64 b.until_, .slice omb nmb cmb, .slice odb ndb cdb, .slice oyb nyb cyb, .slice opb npb cpb, .int .i64 b.start] : Array Value)[j]? := fun j => (hb3.cell (p := ⟨w.heap.size + 1, j, none⟩) (by simp only; omega)).trans (kB2 j); have z3 : w.heap.size + 1 < w3.heap.size := Nat.lt_of_lt_of_le z2 hb3.size; clear hb3)
    go_wp2_with (go_at_call 13; (with_reducible refine (TB.out _ B3.out).mono ?_); rintro e w4 ⟨rfl, hb4⟩; have B4 := Lib.hid (B3.out.trans (hb4.mono B3.out.size)); have kA4 : ∀ j, w4.cell? ⟨w.heap.size, j, none⟩ = (#[.int .i64 a.freq, .int .i64 a.interval, .int .i64 a.count, .int .i64 a.until_, .slice oma nma cma, .slice oda nda cda, .slice oya nya cya, .slice opa npa cpa, .int .i64 a.start] : Array Value)[j]? := fun j => (hb4.cell (p := ⟨w.heap.size, j, none⟩) (by simp only; omega)).trans (kA3 j); have kB4 : ∀ j, w4.cell? ⟨w.heap.size + 1, j, none⟩ = (#[.int .i64 b.freq, .int .i64 b.interval, .int .i64 b.count, .int .i64 b.until_, .slice omb nmb cmb, .slice odb ndb cdb, .slice oyb nyb cyb, .slice opb npb cpb, .int .i64 b.start] : Array Value)[j]? := fun j => (hb4.cell (p := ⟨w.heap.size + 1, j, none⟩) (by simp only; omega)).trans (kB3 j); have z4 : w.heap.size + 1 < w4.heap.size := Nat.lt_of_lt_of_le z3 hb4.size; clear hb4)
    have hS4 : (∀ j, w4.cell? ⟨w.heap.size, j, none⟩ = (#[.int .i64 a.freq, .int .i64 a.interval, .int .i64 a.count, .int .i64 a.until_, .slice oma nma cma, .slice oda nda cda, .slice oya nya cya, .slice opa npa cpa, .int .i64 a.start] : Array Value)[j]?) ∧ (∀ j, w4.cell? ⟨w.heap.size + 1, j, none⟩ = (#[.int .i64 b.freq, .int .i64 b.interval, .int .i64 b.count, .int .i64 b.until_, .slice omb nmb cmb, .slice odb ndb cdb, .slice oyb nyb cyb, .slice opb npb cpb, .int .i64 b.start] : Array Value)[j]?) := ⟨kA4, kB4⟩
    clear kA1 kB1 kA2 kB2 kA3 kB3 kA4 kB4 z1 z2 z3
    have hSd : (∀ j, w4.drew.cell? ⟨w.heap.size, j, none⟩ = (#[.int .i64 a.freq, .int .i64 a.interval, .int .i64 a.count, .int .i64 a.until_, .slice oma nma cma, .slice oda nda cda, .slice oya nya cya, .slice opa npa cpa, .int .i64 a.start] : Array Value)[j]?) ∧ (∀ j, w4.drew.cell? ⟨w.heap.size + 1, j, none⟩ = (#[.int .i64 b.freq, .int .i64 b.interval, .int .i64 b.count, .int .i64 b.until_, .slice omb nmb cmb, .slice odb ndb cdb, .slice oyb nyb cyb, .slice opb npb cpb, .int .i64 b.start] : Array Value)[j]?) := hS4
    go_region_held3 (fun W' => (∀ j, W'.cell? ⟨w.heap.size, j, none⟩ = (#[.int .i64 a.freq, .int .i64 a.interval, .int .i64 a.count, .int .i64 a.until_, .slice oma nma cma, .slice oda nda cda, .slice oya nya cya, .slice opa npa cpa, .int .i64 a.start] : Array Value)[j]?) ∧ (∀ j, W'.cell? ⟨w.heap.size + 1, j, none⟩ = (#[.int .i64 b.freq, .int .i64 b.interval, .int .i64 b.count, .int .i64 b.until_, .slice omb nmb cmb, .slice odb ndb cdb, .slice oyb nyb cyb, .slice opb npb cpb, .int .i64 b.start] : Array Value)[j]?)) (assumption) (first | (go_at_call 7; (with_reducible refine (FX.out _ (by first | exact B4.out | exact B4.out.drew)).mono ?_); rintro e w5 ⟨rfl, hb5⟩; have B5 := Lib.hid (show Below w.heap.size w w5 from (B4.out.drew).trans (Below.mono (show Below w4.drew.heap.size w4.drew w5 from ⟨hb5.os, hb5.tape, hb5.output, hb5.size, hb5.block⟩) B4.out.size)); have z5 : w.heap.size + 1 < w5.heap.size := Nat.lt_of_lt_of_le z4 (show w4.heap.size ≤ w5.heap.size from hb5.size); have hS5 := And.intro (fun j => (hb5.cell (p := ⟨w.heap.size, j, none⟩) (show w.heap.size < w4.heap.size by omega)).trans (hS4.1 j)) (fun j => (hb5.cell (p := ⟨w.heap.size + 1, j, none⟩) z4).trans (hS4.2 j)); clear hb5) | (go_at_call 15; (with_reducible refine (ES.out _ (by first | exact B5.out | exact B5.out.drew)).mono ?_); rintro e w6 ⟨rfl, hb6⟩; have B6 := Lib.hid (show Below w.heap.size w w6 from (B5.out.drew).trans (Below.mono (show Below w5.drew.heap.size w5.drew w6 from ⟨hb6.os, hb6.tape, hb6.output, hb6.size, hb6.block⟩) B5.out.size)); have z6 : w.heap.size + 1 < w6.heap.size := Nat.lt_of_lt_of_le z5 (show w5.heap.size ≤ w6.heap.size from hb6.size); have hS6 := And.intro (fun j => (hb6.cell (p := ⟨w.heap.size, j, none⟩) (show w.heap.size < w5.heap.size by omega)).trans (hS5.1 j)) (fun j => (hb6.cell (p := ⟨w.heap.size + 1, j, none⟩) z5).trans (hS5.2 j)); clear hb6) | (go_at_call 9; (with_reducible refine (ER.out _ (by first | exact B6.out | exact B6.out.drew)).mono ?_); rintro e w7 ⟨rfl, hb7⟩; have B7 := Lib.hid (show Below w.heap.size w w7 from (B6.out.drew).trans (Below.mono (show Below w6.drew.heap.size w6.drew w7 from ⟨hb7.os, hb7.tape, hb7.output, hb7.size, hb7.block⟩) B6.out.size)); have z7 : w.heap.size + 1 < w7.heap.size := Nat.lt_of_lt_of_le z6 (show w6.heap.size ≤ w7.heap.size from hb7.size); have hS7 := And.intro (fun j => (hb7.cell (p := ⟨w.heap.size, j, none⟩) (show w.heap.size < w6.heap.size by omega)).trans (hS6.1 j)) (fun j => (hb7.cell (p := ⟨w.heap.size + 1, j, none⟩) z6).trans (hS6.2 j)); clear hb7) | (go_at_call 9; (with_reducible refine (ER.out _ (by first | exact B7.out | exact B7.out.drew)).mono ?_); rintro e w8 ⟨rfl, hb8⟩; have B8 := Lib.hid (show Below w.heap.size w w8 from (B7.out.drew).trans (Below.mono (show Below w7.drew.heap.size w7.drew w8 from ⟨hb8.os, hb8.tape, hb8.output, hb8.size, hb8.block⟩) B7.out.size)); have z8 : w.heap.size + 1 < w8.heap.size := Nat.lt_of_lt_of_le z7 (show w7.heap.size ≤ w8.heap.size from hb8.size); have hS8 := And.intro (fun j => (hb8.cell (p := ⟨w.heap.size, j, none⟩) (show w.heap.size < w7.heap.size by omega)).trans (hS7.1 j)) (fun j => (hb8.cell (p := ⟨w.heap.size + 1, j, none⟩) z7).trans (hS7.2 j)); clear hb8))
    all_goals
      go_wp2_with fail
      go_ret
      exact ⟨congrArg (fun b => Ending.returned (.bool b)) (by first | rfl | (simp [hqq]; done) | (simp [hxy]; done) | simp_all : _ = true), by first | exact B8.out | exact B8.out.drew⟩
end Go.Proofs.YtcleicjgeflbnaaGreatDoor
