/- The walk of the law RuleParts: it answers true. Conditions: the tables are laid, the errors of strconv lie in their boxes. -/
import Derived.Test.YtcleicjgeflbnaaGreatDoorV15
namespace Go.Proofs.YtcleicjgeflbnaaGreatDoor
open Go.RowKit Go.ChangeShapes Go.WideShapes Go.Deep
set_option linter.all false

set_option maxRecDepth 100000 in
set_option maxHeartbeats 8000000 in
theorem parts_great (cs : List Value) (r : RuleD) (w : World) (h : rRule w cs r) (hL : Laid w) (hE : Errs w) (hg : greatR r) :
    Calls Tryz.prog 4 #[.agg cs.toArray] w fun e w' => e = .returned (.bool true) ∧ Below w.heap.size w w' := by
  have SR := Lib.hid h
  have HL := Lib.hid hL; have HE := Lib.hid hE
  obtain ⟨m, d, y, p, rfl, -, -, -, -, -, hmm, hd, hy, hp⟩ := h
  obtain ⟨om, nm, cm, rfl, lm, -, -, RM⟩ := hmm.open
  obtain ⟨od, nd, cd, rfl, ld, -, -, RD⟩ := hd.open
  obtain ⟨oy, ny, cy, rfl, ly, -, -, RY⟩ := hy.open
  obtain ⟨op, np, cp, rfl, lp, -, -, RP⟩ := hp.open
  have G1 := Lib.hid (fun (W : World) (hb : Below w.heap.size w W) => c_t (great_any _ r W (SR.out.later hb)) hg)
  have FX := Lib.hid (fun (W : World) (hb : Below w.heap.size w W) => fixed_any W (HL.out.later hb) (HE.out.later hb))
  clear hmm hd hy hp RM RD RY RP lm ld ly lp hL hE hg
  go_enter Tryz.func4, Tryz.ntmps4
  go_wp2_with (first
    | (go_at_call 12; ((with_reducible refine (G1.out _ ?_).mono ?_); (exact belowA _ (Below.refl _ _)); rintro e w1 ⟨rfl, hb⟩
                       have B1 := Lib.hid (show Below w.heap.size w w1 from (belowA _ (Below.refl _ _)).trans (hb.mono (by simp)))
                       clear hb))
    | (go_at_call 7; ((with_reducible refine (FX.out _ B1.out).mono ?_); rintro e w2 ⟨rfl, hb⟩
                      have B2 := Lib.hid (show Below w.heap.size w w2 from B1.out.trans (hb.mono B1.out.size))
                      clear hb)))
  go_ret
  exact ⟨rfl, B2.out⟩

set_option maxRecDepth 100000 in
set_option maxHeartbeats 8000000 in
theorem parts_not (cs : List Value) (r : RuleD) (w : World) (h : rRule w cs r) (hL : Laid w) (hE : Errs w) (hg : ¬ greatR r) (hm : ¬ mayR r) :
    Calls Tryz.prog 4 #[.agg cs.toArray] w fun e w' => e = .returned (.bool true) ∧ Below w.heap.size w w' := by
  have SR := Lib.hid h
  have HL := Lib.hid hL; have HE := Lib.hid hE
  obtain ⟨m, d, y, p, rfl, -, -, -, -, -, hmm, hd, hy, hp⟩ := h
  obtain ⟨om, nm, cm, rfl, lm, -, -, RM⟩ := hmm.open
  obtain ⟨od, nd, cd, rfl, ld, -, -, RD⟩ := hd.open
  obtain ⟨oy, ny, cy, rfl, ly, -, -, RY⟩ := hy.open
  obtain ⟨op, np, cp, rfl, lp, -, -, RP⟩ := hp.open
  have G1 := Lib.hid (fun (W : World) (hb : Below w.heap.size w W) => c_f (great_any _ r W (SR.out.later hb)) hg)
  have M1 := Lib.hid (fun (W : World) (hb : Below w.heap.size w W) => c_f (refMay_any _ r W (SR.out.later hb) (few_of hg)) hm)
  have FX := Lib.hid (fun (W : World) (hb : Below w.heap.size w W) => fixed_any W (HL.out.later hb) (HE.out.later hb))
  clear hmm hd hy hp RM RD RY RP lm ld ly lp hL hE hg hm
  go_enter Tryz.func4, Tryz.ntmps4
  go_wp2_with (first
    | (go_at_call 12; ((with_reducible refine (G1.out _ ?_).mono ?_); (exact belowA _ (Below.refl _ _)); rintro e w1 ⟨rfl, hb⟩
                       have B1 := Lib.hid (show Below w.heap.size w w1 from (belowA _ (Below.refl _ _)).trans (hb.mono (by simp)))
                       have kA : ∀ j, w1.cell? ⟨w.heap.size, j, none⟩ = _ := fun j => (hb.cell (p := ⟨w.heap.size, j, none⟩) (by simp)).trans (cell_of_row _ _ _ _ _ _ (heap_alloc_new _ _))
                       clear hb))
    | (go_at_call 10; ((with_reducible refine (M1.out _ B1.out).mono ?_); rintro e w2 ⟨rfl, hb⟩
                       have B2 := Lib.hid (show Below w.heap.size w w2 from B1.out.trans (hb.mono B1.out.size))
                       clear hb))
    | (go_at_call 7; ((with_reducible refine (FX.out _ B2.out).mono ?_); rintro e w3 ⟨rfl, hb⟩
                      have B3 := Lib.hid (show Below w.heap.size w w3 from B2.out.trans (hb.mono B2.out.size))
                      clear hb)))
  go_ret
  exact ⟨rfl, B3.out⟩
end Go.Proofs.YtcleicjgeflbnaaGreatDoor
