/- rule.May: may a rule be. Condition: its rows have at most ten thousand places. -/
import Derived.Test.YtcleicjgeflbnaaGreatR5
import Derived.BigGuard
import Derived.BigCall
namespace Go.Proofs.YtcleicjgeflbnaaGreat
open Go.RowKit Go.ChangeShapes Go.WideShapes Go.Deep
set_option linter.all false

theorem ret_dec {b : Bool} {p : Prop} (h : b = true ↔ p) : Ending.returned (.bool b) = Ending.returned (.bool (dec p)) := by
  by_cases hp : p
  · rw [dec_t hp, h.2 hp]
  · rw [dec_f hp, Bool.eq_false_iff.2 fun hb => hp (h.1 hb)]

def mayR (r : RuleD) : Prop := 1 ≤ r.freq ∧ r.freq ≤ 4 ∧ 1 ≤ r.interval ∧ r.interval ≤ 999 ∧ endsMay r ∧ rowMay 12 false r.byMonth ∧ rowMay 31 true r.byMonthDay ∧ (r.freq ≠ 2 ∨ r.byMonthDay.length = 0) ∧ daysMay r ∧ rowMay 366 true r.bySetPos ∧ (0 < r.byMonth.length + r.byMonthDay.length + r.byDay.length ∨ r.bySetPos.length = 0) ∧ 0 ≤ r.start ∧ r.start ≤ 6
structure fewR (r : RuleD) : Prop where
  m : r.byMonth.length ≤ 10000
  d : r.byMonthDay.length ≤ 10000
  y : r.byDay.length ≤ 10000
  p : r.bySetPos.length ≤ 10000

set_option maxHeartbeats 20000000 in
set_option maxRecDepth 100000 in
theorem may_any (cs : List Value) (r : RuleD) (w : World) (h : rRule w cs r) (hf : fewR r) :
    Calls Tryz.prog 22 #[.agg cs.toArray] w fun e w' => e = .returned (.bool (dec (mayR r))) ∧ Below w.heap.size w w' := by
  have SR := Lib.hid h
  obtain ⟨m, d, y, p, rfl, -, -, -, -, -, hm, hd, hy, hp⟩ := h
  obtain ⟨om, nm, cm, rfl, lm, -, -, RM⟩ := hm.open
  obtain ⟨od, nd, cd, rfl, ld, -, -, RD⟩ := hd.open
  obtain ⟨oy, ny, cy, rfl, ly, -, -, RY⟩ := hy.open
  obtain ⟨op, np, cp, rfl, lp, -, -, RP⟩ := hp.open
  have LM := Lib.hid lm; have LD := Lib.hid ld; have LY := Lib.hid ly; have LP := Lib.hid lp
  have hnm : nm ≤ 10000 := by have := hf.m; omega
  have hnd : nd ≤ 10000 := by have := hf.d; omega
  have hny : ny ≤ 10000 := by have := hf.y; omega
  have hnp : np ≤ 10000 := by have := hf.p; omega
  have HB := Lib.hid (show Below w.heap.size w (w.alloc (.cells #[.int .i64 r.freq, .int .i64 r.interval, .int .i64 r.count, .int .i64 r.until_, .slice om nm cm, .slice od nd cd, .slice oy ny cy, .slice op np cp, .int .i64 r.start] 28)) from (Below.refl _ _).alloc (Nat.le_refl _) _)
  have C5 := Lib.hid (fun (W : World) (hb : Below w.heap.size w W) => ends_any _ r W (SR.out.later hb))
  have C6 := Lib.hid (fun (W : World) (hb : Below w.heap.size w W) => (show Calls Tryz.prog 45 #[.slice om nm cm, .int .i64 12, .bool false] W (fun e w' => e = .returned (.bool (dec (rowMay 12 false r.byMonth))) ∧ Below W.heap.size W w') from row_any om nm cm r.byMonth 12 false W (RM.later' hb) hnm (by decide)))
  have C7 := Lib.hid (fun (W : World) (hb : Below w.heap.size w W) => (show Calls Tryz.prog 45 #[.slice od nd cd, .int .i64 31, .bool true] W (fun e w' => e = .returned (.bool (dec (rowMay 31 true r.byMonthDay))) ∧ Below W.heap.size W w') from row_any od nd cd r.byMonthDay 31 true W (RD.later' hb) hnd (by decide)))
  have C9 := Lib.hid (fun (W : World) (hb : Below w.heap.size w W) => daysMay_any _ r W (SR.out.later hb) hf.y hf.m)
  have C10 := Lib.hid (fun (W : World) (hb : Below w.heap.size w W) => (show Calls Tryz.prog 45 #[.slice op np cp, .int .i64 366, .bool true] W (fun e w' => e = .returned (.bool (dec (rowMay 366 true r.bySetPos))) ∧ Below W.heap.size W w') from row_any op np cp r.bySetPos 366 true W (RP.later' hb) hnp (by decide)))
  have hs1 : wrap64 ((nm : Int) + (nd : Int)) = (nm : Int) + (nd : Int) := by unfold wrap64; omega
  have hs2 : wrap64 ((nm : Int) + (nd : Int) + (ny : Int)) = (nm : Int) + (nd : Int) + (ny : Int) := by unfold wrap64; omega
  clear hm hd hy hp RM RD RY RP lm ld ly lp hf hnm hnd hny hnp
  go_enter Tryz.func22, Tryz.ntmps22
  simp only [List.append_eq, List.cons_append, List.nil_append]
  go_wp2_with (first
    | (go_at_call 44; ((with_reducible refine (C5.out _ HB.out).mono ?_)); rintro e w1 ⟨rfl, hb1⟩; have kA1 : ∀ j, World.cell? w1 ⟨w.heap.size, j, none⟩ = World.cell? (w.alloc (.cells #[.int .i64 r.freq, .int .i64 r.interval, .int .i64 r.count, .int .i64 r.until_, .slice om nm cm, .slice od nd cd, .slice oy ny cy, .slice op np cp, .int .i64 r.start] 28)) ⟨w.heap.size, j, none⟩ := fun j => hb1.cell (by simp); have hz1 : w.heap.size < w1.heap.size := Nat.lt_of_lt_of_le (by simp) hb1.size; have HB1 := Lib.hid (below_call HB.out hb1); clear hb1)
    | (go_at_call 45; ((with_reducible refine (C6.out _ HB1.out).mono ?_)); rintro e w2 ⟨rfl, hb2⟩; have kA2 : ∀ j, World.cell? w2 ⟨w.heap.size, j, none⟩ = World.cell? (w.alloc (.cells #[.int .i64 r.freq, .int .i64 r.interval, .int .i64 r.count, .int .i64 r.until_, .slice om nm cm, .slice od nd cd, .slice oy ny cy, .slice op np cp, .int .i64 r.start] 28)) ⟨w.heap.size, j, none⟩ := fun j => (hb2.cell hz1).trans (kA1 j); have hz2 : w.heap.size < w2.heap.size := Nat.lt_of_lt_of_le hz1 hb2.size; have HB2 := Lib.hid (below_call HB1.out hb2); clear hb2 kA1 hz1)
    | (go_at_call 45; ((with_reducible refine (C7.out _ HB2.out).mono ?_)); rintro e w3 ⟨rfl, hb3⟩; have kA3 : ∀ j, World.cell? w3 ⟨w.heap.size, j, none⟩ = World.cell? (w.alloc (.cells #[.int .i64 r.freq, .int .i64 r.interval, .int .i64 r.count, .int .i64 r.until_, .slice om nm cm, .slice od nd cd, .slice oy ny cy, .slice op np cp, .int .i64 r.start] 28)) ⟨w.heap.size, j, none⟩ := fun j => (hb3.cell hz2).trans (kA2 j); have hz3 : w.heap.size < w3.heap.size := Nat.lt_of_lt_of_le hz2 hb3.size; have HB3 := Lib.hid (below_call HB2.out hb3); clear hb3 kA2 hz2)
    | (go_at_call 46; (first | (with_reducible refine (C9.out _ HB3.out).mono ?_) | (have c9 := C9.out _ HB3.out; simp only [‹r.freq = 2›, ‹nd = 0›] at c9; (with_reducible refine c9.mono ?_))); rintro e w4 ⟨rfl, hb4⟩; have kA4 : ∀ j, World.cell? w4 ⟨w.heap.size, j, none⟩ = World.cell? (w.alloc (.cells #[.int .i64 r.freq, .int .i64 r.interval, .int .i64 r.count, .int .i64 r.until_, .slice om nm cm, .slice od nd cd, .slice oy ny cy, .slice op np cp, .int .i64 r.start] 28)) ⟨w.heap.size, j, none⟩ := fun j => (hb4.cell hz3).trans (kA3 j); have hz4 : w.heap.size < w4.heap.size := Nat.lt_of_lt_of_le hz3 hb4.size; have HB4 := Lib.hid (below_call HB3.out hb4); clear hb4 kA3 hz3)
    | (go_at_call 45; ((with_reducible refine (C10.out _ HB4.out).mono ?_)); rintro e w5 ⟨rfl, hb5⟩; have kA5 : ∀ j, World.cell? w5 ⟨w.heap.size, j, none⟩ = World.cell? (w.alloc (.cells #[.int .i64 r.freq, .int .i64 r.interval, .int .i64 r.count, .int .i64 r.until_, .slice om nm cm, .slice od nd cd, .slice oy ny cy, .slice op np cp, .int .i64 r.start] 28)) ⟨w.heap.size, j, none⟩ := fun j => (hb5.cell hz4).trans (kA4 j); have hz5 : w.heap.size < w5.heap.size := Nat.lt_of_lt_of_le hz4 hb5.size; have HB5 := Lib.hid (below_call HB4.out hb5); clear hb5 kA4 hz4))
  all_goals go_ret
  all_goals refine ⟨ret_dec ?_, by first | exact HB5.out | exact HB4.out | exact HB3.out | exact HB2.out | exact HB1.out | exact HB.out⟩
  all_goals have e1 := LM.out
  all_goals have e2 := LD.out
  all_goals have e3 := LY.out
  all_goals have e4 := LP.out
  all_goals unfold mayR
  all_goals simp only [decide_eq_true_eq, Bool.false_eq_true, false_iff, dec_iff] at *
  all_goals first
    | (rintro ⟨q1, q2, q3, q4, q5, q6, q7, q8, q9, q10, q11, q12, q13⟩; first | omega | contradiction)
    | (constructor <;> intro hh <;> simp_all <;> omega)
    | trace_state

end Go.Proofs.YtcleicjgeflbnaaGreat
