/- The walk of the law RuleAlike: it answers true. Conditions: the tables are laid, the errors of strconv lie in their boxes. -/
import Derived.Test.YtcleicjgeflbnaaGreatDoorX3
import Derived.Test.YtcleicjgeflbnaaGreatDoorX5
import Derived.Test.YtcleicjgeflbnaaGreatDoorV16
import Derived.Test.YtcleicjgeflbnaaGreatDoorS9
import Derived.Test.YtcleicjgeflbnaaGreatDoorS10
import Derived.Deep.RegionHeld3
namespace Go.Proofs.YtcleicjgeflbnaaGreatDoor
open Go.RowKit Go.ChangeShapes Go.WideShapes Go.Deep
set_option linter.all false

theorem text_any (cs : List Value) (r : RuleD) (w : World) (h : rRule w cs r) (hf : fewR r) (hL : Laid w) (X : ByteArray) (o : Bool) (ho : o = dec (mayR r)) (hX : X = if o then toB (textR shortT r) else ⟨#[]⟩) :
    Calls Tryz.prog 13 #[.agg cs.toArray] w fun e w' => e = .returned (.tuple #[.string X, .bool o]) ∧ Below w.heap.size w w' := by
  by_cases hm : mayR r
  · rw [dec_t hm] at ho
    subst ho
    rw [if_pos rfl] at hX
    rw [hX]
    exact text_yes cs r w h hf hL hm
  · rw [dec_f hm] at ho
    subst ho
    rw [if_neg (by decide)] at hX
    rw [hX]
    exact text_no cs r w h hf hm

set_option maxRecDepth 100000 in
set_option maxHeartbeats 8000000 in
theorem alike_great (ca cb : List Value) (a b : RuleD) (w : World) (ha : rRule w ca a) (hb : rRule w cb b) (hL : Laid w) (hE : Errs w) (hg : greatR a ∨ greatR b) :
    Calls Tryz.prog 6 #[.agg ca.toArray, .agg cb.toArray] w fun e w' => e = .returned (.bool true) ∧ Below w.heap.size w w' := by
  have SA := Lib.hid ha; have SB := Lib.hid hb; have HL := Lib.hid hL; have HE := Lib.hid hE
  obtain ⟨ma, da, ya, pa, rfl, -, -, -, -, -, rma, rda, rya, rpa⟩ := ha
  obtain ⟨oma, nma, cma, rfl, -, -, -, Rma⟩ := rma.open
  obtain ⟨oda, nda, cda, rfl, -, -, -, Rda⟩ := rda.open
  obtain ⟨oya, nya, cya, rfl, -, -, -, Rya⟩ := rya.open
  obtain ⟨opa, npa, cpa, rfl, -, -, -, Rpa⟩ := rpa.open
  clear rma rda rya rpa Rma Rda Rya Rpa
  obtain ⟨mb, db, yb, pb, rfl, -, -, -, -, -, rmb, rdb, ryb, rpb⟩ := hb
  obtain ⟨omb, nmb, cmb, rfl, -, -, -, Rmb⟩ := rmb.open
  obtain ⟨odb, ndb, cdb, rfl, -, -, -, Rdb⟩ := rdb.open
  obtain ⟨oyb, nyb, cyb, rfl, -, -, -, Ryb⟩ := ryb.open
  obtain ⟨opb, npb, cpb, rfl, -, -, -, Rpb⟩ := rpb.open
  clear rmb rdb ryb rpb Rmb Rdb Ryb Rpb
  obtain ⟨ga, hga⟩ : ∃ g, g = dec (greatR a) := ⟨_, rfl⟩
  obtain ⟨gb, hgb⟩ : ∃ g, g = dec (greatR b) := ⟨_, rfl⟩
  have GA := Lib.hid (fun (W : World) (hb : Below w.heap.size w W) => great_any _ a W (SA.out.later hb))
  have GB := Lib.hid (fun (W : World) (hb : Below w.heap.size w W) => great_any _ b W (SB.out.later hb))
  rw [← hga] at GA; rw [← hgb] at GB
  have hgg : ga = true ∨ (ga = false ∧ gb = true) := by
    by_cases e : greatR a
    · exact .inl (by rw [hga]; exact dec_t e)
    · exact .inr ⟨by rw [hga]; exact dec_f e, by rw [hgb]; exact dec_t (hg.resolve_left e)⟩
  have FX := Lib.hid (fun (W : World) (hb : Below w.heap.size w W) => fixed_any W (HL.out.later hb) (HE.out.later hb))
  have HB0 := Lib.hid (show Below w.heap.size w ((w.alloc (.cells #[.int .i64 a.freq, .int .i64 a.interval, .int .i64 a.count, .int .i64 a.until_, .slice oma nma cma, .slice oda nda cda, .slice oya nya cya, .slice opa npa cpa, .int .i64 a.start] 26)).alloc (.cells #[.int .i64 b.freq, .int .i64 b.interval, .int .i64 b.count, .int .i64 b.until_, .slice omb nmb cmb, .slice odb ndb cdb, .slice oyb nyb cyb, .slice opb npb cpb, .int .i64 b.start] 26)) from belowA _ (belowA _ (Below.refl _ _)))
  clear hL hE hg hga hgb
  rcases hgg with rfl | ⟨rfl, rfl⟩
  · go_enter Tryz.func6, Tryz.ntmps6
    go_wp2_with (first
      | (go_at_call 12; ((with_reducible refine (GA.out _ HB0.out).mono ?_); rintro e w1 ⟨rfl, hb1⟩
                         have B1 := Lib.hid (HB0.out.trans (hb1.mono HB0.out.size))
                         clear hb1))
      | (go_at_call 7; ((with_reducible refine (FX.out _ B1.out).mono ?_); rintro e w2 ⟨rfl, hb2⟩
                        have B2 := Lib.hid (B1.out.trans (hb2.mono B1.out.size))
                        clear hb2)))
    go_ret
    exact ⟨rfl, B2.out⟩
  · go_enter Tryz.func6, Tryz.ntmps6
    go_wp2_with (first
      | (go_at_call 12; ((with_reducible refine (GA.out _ HB0.out).mono ?_); rintro e w1 ⟨rfl, hb1⟩
                         have B1 := Lib.hid (HB0.out.trans (hb1.mono HB0.out.size))
                         have kB : ∀ j, w1.cell? ⟨w.heap.size + 1, j, none⟩ = (#[.int .i64 b.freq, .int .i64 b.interval, .int .i64 b.count, .int .i64 b.until_, .slice omb nmb cmb, .slice odb ndb cdb, .slice oyb nyb cyb, .slice opb npb cpb, .int .i64 b.start] : Array Value)[j]? := fun j => (hb1.cell (p := ⟨w.heap.size + 1, j, none⟩) (by simp)).trans (cell_of_row _ _ _ _ _ _ (heap_alloc2_new _ _ _))
                         clear hb1))
      | (go_at_call 12; ((with_reducible refine (GB.out _ B1.out).mono ?_); rintro e w2 ⟨rfl, hb2⟩
                         have B2 := Lib.hid (B1.out.trans (hb2.mono B1.out.size))
                         clear hb2))
      | (go_at_call 7; ((with_reducible refine (FX.out _ B2.out).mono ?_); rintro e w3 ⟨rfl, hb3⟩
                        have B3 := Lib.hid (B2.out.trans (hb3.mono B2.out.size))
                        clear hb3)))
    go_ret
    exact ⟨rfl, B3.out⟩
end Go.Proofs.YtcleicjgeflbnaaGreatDoor
