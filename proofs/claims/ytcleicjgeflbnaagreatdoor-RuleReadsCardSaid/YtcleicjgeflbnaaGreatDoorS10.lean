/- rule.Text at a rule that may not be: no text. Conditions: its rows have at most ten thousand places. -/
import Derived.Test.YtcleicjgeflbnaaGreatDoorS8
namespace Go.Proofs.YtcleicjgeflbnaaGreatDoor
open Go.RowKit Go.ChangeShapes Go.WideShapes Go.Deep
set_option linter.all false

set_option maxRecDepth 100000 in
set_option maxHeartbeats 20000000 in
theorem text_no (cs : List Value) (r : RuleD) (w : World) (h : rRule w cs r) (hf : fewR r) (hm : ¬ mayR r) :
    Calls Tryz.prog 13 #[.agg cs.toArray] w fun e w' => e = .returned (.tuple #[.string ⟨#[]⟩, .bool false]) ∧ Below w.heap.size w w' := by
  have SR := Lib.hid h
  obtain ⟨m, d, y, p, rfl, -, -, -, -, -, hmm, hd, hy, hp⟩ := h
  obtain ⟨om, nm, cm, rfl, lm, -, -, RM⟩ := hmm.open
  obtain ⟨od, nd, cd, rfl, ld, -, -, RD⟩ := hd.open
  obtain ⟨oy, ny, cy, rfl, ly, -, -, RY⟩ := hy.open
  obtain ⟨op, np, cp, rfl, lp, -, -, RP⟩ := hp.open
  have M1 := Lib.hid (fun (W : World) (hb : Below w.heap.size w W) => c_f (may_any _ r W (SR.out.later hb) hf) hm)
  clear hmm hd hy hp RM RD RY RP lm ld ly lp hf hm
  go_enter Tryz.func13, Tryz.ntmps13
  go_wp2_with (go_at_call 14; ((with_reducible refine (M1.out _ ?_).mono ?_); (exact belowA _ (Below.refl _ _)); rintro e w1 ⟨rfl, hb⟩
                               have B1 := Lib.hid (show Below w.heap.size w w1 from (belowA _ (Below.refl _ _)).trans (hb.mono (by simp)))
                               clear hb))
  go_ret2
  exact ⟨rfl, B1.out⟩
end Go.Proofs.YtcleicjgeflbnaaGreatDoor
