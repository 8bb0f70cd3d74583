/- The document's May. Condition: its rows have at most ten thousand places. -/
import Derived.Test.YtcleicjgeflbnaaGreatR9
namespace Go.Proofs.YtcleicjgeflbnaaGreat
open Go.RowKit Go.ChangeShapes Go.WideShapes Go.Deep
set_option linter.all false

theorem dec_ff (p : Prop) : dec p = false ↔ ¬ p := by unfold dec; simp
set_option maxHeartbeats 40000000 in
set_option maxRecDepth 100000 in
theorem refMay_any (cs : List Value) (r : RuleD) (w : World) (h : rRule w cs r) (hf : fewR r) :
    Calls Tryz.prog 27 #[.agg cs.toArray] w fun e w' => e = .returned (.bool (dec (mayR r))) ∧ Below w.heap.size w w' := by
  have SR := Lib.hid h
  obtain ⟨m, d, y, p, rfl, -, -, -, -, -, hm, hd, hy, hp⟩ := h
  obtain ⟨om, nm, cm, rfl, lm, -, -, RM⟩ := hm.open
  obtain ⟨od, nd, cd, rfl, ld, -, -, RD⟩ := hd.open
  obtain ⟨oy, ny, cy, rfl, ly, -, -, RY⟩ := hy.open
  obtain ⟨op, np, cp, rfl, lp, -, -, RP⟩ := hp.open
  have LM := Lib.hid lm; have LD := Lib.hid ld; have LY := Lib.hid ly; have LP := Lib.hid lp
  have hnm : nm ≤ 10000 := by have := hf.m; omega
  have hnd : nd ≤ 10000 := by have := hf.d; omega
  have hny : ny ≤ 10000 := by have := hf.y; omega
  have hnp : np ≤ 10000 := by have := hf.p; omega
  have HB := Lib.hid (show Below w.heap.size w (w.alloc (.cells #[.int .i64 r.freq, .int .i64 r.interval, .int .i64 r.count, .int .i64 r.until_, .slice om nm cm, .slice od nd cd, .slice oy ny cy, .slice op np cp, .int .i64 r.start] 28)) from (Below.refl _ _).alloc (Nat.le_refl _) _)
  have C6 := Lib.hid (fun (W : World) (hb : Below w.heap.size w W) => (show Calls Tryz.prog 48 #[.slice om nm cm, .int .i64 12, .bool false] W (fun e w' => e = .returned (.bool (dec (rowMay 12 false r.byMonth))) ∧ Below W.heap.size W w') from refRow_any om nm cm r.byMonth 12 false W (RM.later' hb) hnm (by decide)))
  have C7 := Lib.hid (fun (W : World) (hb : Below w.heap.size w W) => (show Calls Tryz.prog 48 #[.slice od nd cd, .int .i64 31, .bool true] W (fun e w' => e = .returned (.bool (dec (rowMay 31 true r.byMonthDay))) ∧ Below W.heap.size W w') from refRow_any od nd cd r.byMonthDay 31 true W (RD.later' hb) hnd (by decide)))
  have C9 := Lib.hid (fun (W : World) (hb : Below w.heap.size w W) hfq => refDays_any _ r W (SR.out.later hb) hf.y hf.m hfq)
  have C10 := Lib.hid (fun (W : World) (hb : Below w.heap.size w W) => (show Calls Tryz.prog 48 #[.slice op np cp, .int .i64 366, .bool true] W (fun e w' => e = .returned (.bool (dec (rowMay 366 true r.bySetPos))) ∧ Below W.heap.size W w') from refRow_any op np cp r.bySetPos 366 true W (RP.later' hb) hnp (by decide)))
  clear hm hd hy hp RM RD RY RP lm ld ly lp hf hnm hnd hny hnp
  by_cases hu : r.until_ = -1
  · have u1 : (r.until_ != -1) = false := by simp [hu]
    have HU := Lib.hid hu
    clear hu
    go_enter Tryz.func27, Tryz.ntmps27
    try simp only [List.append_eq, List.cons_append, List.nil_append]
    go_wp2_with (first
      | (go_at_call 48; ((with_reducible refine (C6.out _ HB.out).mono ?_)); rintro e w1 ⟨rfl, hb1⟩; have kA1 : ∀ j, World.cell? w1 ⟨w.heap.size, j, none⟩ = World.cell? (w.alloc (.cells #[.int .i64 r.freq, .int .i64 r.interval, .int .i64 r.count, .int .i64 r.until_, .slice om nm cm, .slice od nd cd, .slice oy ny cy, .slice op np cp, .int .i64 r.start] 28)) ⟨w.heap.size, j, none⟩ := fun j => hb1.cell (by simp); have hz1 : w.heap.size < w1.heap.size := Nat.lt_of_lt_of_le (by simp) hb1.size; have HB1 := Lib.hid (below_call HB.out hb1); clear hb1)
      | (go_at_call 48; ((with_reducible refine (C7.out _ HB1.out).mono ?_)); rintro e w2 ⟨rfl, hb2⟩; have kA2 : ∀ j, World.cell? w2 ⟨w.heap.size, j, none⟩ = World.cell? (w.alloc (.cells #[.int .i64 r.freq, .int .i64 r.interval, .int .i64 r.count, .int .i64 r.until_, .slice om nm cm, .slice od nd cd, .slice oy ny cy, .slice op np cp, .int .i64 r.start] 28)) ⟨w.heap.size, j, none⟩ := fun j => (hb2.cell hz1).trans (kA1 j); have hz2 : w.heap.size < w2.heap.size := Nat.lt_of_lt_of_le hz1 hb2.size; have HB2 := Lib.hid (below_call HB1.out hb2); clear hb2 kA1 hz1)
      | (go_at_call 48; ((with_reducible refine (C10.out _ HB2.out).mono ?_)); rintro e w3 ⟨rfl, hb3⟩; have kA3 : ∀ j, World.cell? w3 ⟨w.heap.size, j, none⟩ = World.cell? (w.alloc (.cells #[.int .i64 r.freq, .int .i64 r.interval, .int .i64 r.count, .int .i64 r.until_, .slice om nm cm, .slice od nd cd, .slice oy ny cy, .slice op np cp, .int .i64 r.start] 28)) ⟨w.heap.size, j, none⟩ := fun j => (hb3.cell hz2).trans (kA2 j); have hz3 : w.heap.size < w3.heap.size := Nat.lt_of_lt_of_le hz2 hb3.size; have HB3 := Lib.hid (below_call HB2.out hb3); clear hb3 kA2 hz2)
      | (go_at_call 49; ((with_reducible refine (C9.out _ HB3.out (by omega)).mono ?_)); rintro e w4 ⟨rfl, hb4⟩; have kA4 : ∀ j, World.cell? w4 ⟨w.heap.size, j, none⟩ = World.cell? (w.alloc (.cells #[.int .i64 r.freq, .int .i64 r.interval, .int .i64 r.count, .int .i64 r.until_, .slice om nm cm, .slice od nd cd, .slice oy ny cy, .slice op np cp, .int .i64 r.start] 28)) ⟨w.heap.size, j, none⟩ := fun j => (hb4.cell hz3).trans (kA3 j); have hz4 : w.heap.size < w4.heap.size := Nat.lt_of_lt_of_le hz3 hb4.size; have HB4 := Lib.hid (below_call HB3.out hb4); clear hb4 kA3 hz3))
    all_goals go_ret
    all_goals refine ⟨ret_dec ?_, by first | exact HB4.out | exact HB3.out | exact HB2.out | exact HB1.out | exact HB.out⟩
    all_goals have e1 := LM.out
    all_goals have e2 := LD.out
    all_goals have e3 := LY.out
    all_goals have e4 := LP.out
    all_goals have e5 := HU.out
    all_goals unfold mayR
    all_goals simp only [dec_ff, decide_eq_true_eq, Bool.false_eq_true, false_iff, true_iff, dec_iff, Bool.not_eq_true', Bool.not_eq_eq_eq_not, Bool.not_false, Bool.not_true] at *
    all_goals first
      | (rintro ⟨q1, q2, q3, q4, q5, q6, q7, q8, q9, q10, q11, q12, q13⟩; unfold endsMay at q5; first | omega | contradiction | (simp_all; done) | (simp_all; omega))
      | (refine ⟨?_, ?_, ?_, ?_, ?_, ?_, ?_, ?_, ?_, ?_, ?_, ?_, ?_⟩ <;> first | assumption | omega | (unfold endsMay; omega) | (simp_all; done) | (simp_all; omega))
      | (constructor
         · intro hh
           simp only [Bool.or_eq_true, beq_iff_eq, decide_eq_true_eq] at hh
           refine ⟨?_, ?_, ?_, ?_, ?_, ?_, ?_, ?_, ?_, ?_, ?_, ?_, ?_⟩ <;> first | assumption | omega | (unfold endsMay; omega)
         · rintro ⟨q1, q2, q3, q4, q5, q6, q7, q8, q9, q10, q11, q12, q13⟩
           simp only [Bool.or_eq_true, beq_iff_eq, decide_eq_true_eq]
           omega)
  · have u1 : (r.until_ != -1) = true := by simp [hu]
    have HU := Lib.hid hu
    clear hu
    go_enter Tryz.func27, Tryz.ntmps27
    try simp only [List.append_eq, List.cons_append, List.nil_append]
    go_wp2_with (first
      | (go_at_call 48; ((with_reducible refine (C6.out _ HB.out).mono ?_)); rintro e w1 ⟨rfl, hb1⟩; have kA1 : ∀ j, World.cell? w1 ⟨w.heap.size, j, none⟩ = World.cell? (w.alloc (.cells #[.int .i64 r.freq, .int .i64 r.interval, .int .i64 r.count, .int .i64 r.until_, .slice om nm cm, .slice od nd cd, .slice oy ny cy, .slice op np cp, .int .i64 r.start] 28)) ⟨w.heap.size, j, none⟩ := fun j => hb1.cell (by simp); have hz1 : w.heap.size < w1.heap.size := Nat.lt_of_lt_of_le (by simp) hb1.size; have HB1 := Lib.hid (below_call HB.out hb1); clear hb1)
      | (go_at_call 48; ((with_reducible refine (C7.out _ HB1.out).mono ?_)); rintro e w2 ⟨rfl, hb2⟩; have kA2 : ∀ j, World.cell? w2 ⟨w.heap.size, j, none⟩ = World.cell? (w.alloc (.cells #[.int .i64 r.freq, .int .i64 r.interval, .int .i64 r.count, .int .i64 r.until_, .slice om nm cm, .slice od nd cd, .slice oy ny cy, .slice op np cp, .int .i64 r.start] 28)) ⟨w.heap.size, j, none⟩ := fun j => (hb2.cell hz1).trans (kA1 j); have hz2 : w.heap.size < w2.heap.size := Nat.lt_of_lt_of_le hz1 hb2.size; have HB2 := Lib.hid (below_call HB1.out hb2); clear hb2 kA1 hz1)
      | (go_at_call 48; ((with_reducible refine (C10.out _ HB2.out).mono ?_)); rintro e w3 ⟨rfl, hb3⟩; have kA3 : ∀ j, World.cell? w3 ⟨w.heap.size, j, none⟩ = World.cell? (w.alloc (.cells #[.int .i64 r.freq, .int .i64 r.interval, .int .i64 r.count, .int .i64 r.until_, .slice om nm cm, .slice od nd cd, .slice oy ny cy, .slice op np cp, .int .i64 r.start] 28)) ⟨w.heap.size, j, none⟩ := fun j => (hb3.cell hz2).trans (kA2 j); have hz3 : w.heap.size < w3.heap.size := Nat.lt_of_lt_of_le hz2 hb3.size; have HB3 := Lib.hid (below_call HB2.out hb3); clear hb3 kA2 hz2)
      | (go_at_call 49; ((with_reducible refine (C9.out _ HB3.out (by omega)).mono ?_)); rintro e w4 ⟨rfl, hb4⟩; have kA4 : ∀ j, World.cell? w4 ⟨w.heap.size, j, none⟩ = World.cell? (w.alloc (.cells #[.int .i64 r.freq, .int .i64 r.interval, .int .i64 r.count, .int .i64 r.until_, .slice om nm cm, .slice od nd cd, .slice oy ny cy, .slice op np cp, .int .i64 r.start] 28)) ⟨w.heap.size, j, none⟩ := fun j => (hb4.cell hz3).trans (kA3 j); have hz4 : w.heap.size < w4.heap.size := Nat.lt_of_lt_of_le hz3 hb4.size; have HB4 := Lib.hid (below_call HB3.out hb4); clear hb4 kA3 hz3))
    all_goals go_ret
    all_goals refine ⟨ret_dec ?_, by first | exact HB4.out | exact HB3.out | exact HB2.out | exact HB1.out | exact HB.out⟩
    all_goals have e1 := LM.out
    all_goals have e2 := LD.out
    all_goals have e3 := LY.out
    all_goals have e4 := LP.out
    all_goals have e5 := HU.out
    all_goals unfold mayR
    all_goals simp only [dec_ff, decide_eq_true_eq, Bool.false_eq_true, false_iff, true_iff, dec_iff, Bool.not_eq_true', Bool.not_eq_eq_eq_not, Bool.not_false, Bool.not_true] at *
    all_goals first
      | (rintro ⟨q1, q2, q3, q4, q5, q6, q7, q8, q9, q10, q11, q12, q13⟩; unfold endsMay at q5; first | omega | contradiction | (simp_all; done) | (simp_all; omega))
      | (refine ⟨?_, ?_, ?_, ?_, ?_, ?_, ?_, ?_, ?_, ?_, ?_, ?_, ?_⟩ <;> first | assumption | omega | (unfold endsMay; omega) | (simp_all; done) | (simp_all; omega))
      | (constructor
         · intro hh
           simp only [Bool.or_eq_true, beq_iff_eq, decide_eq_true_eq] at hh
           refine ⟨?_, ?_, ?_, ?_, ?_, ?_, ?_, ?_, ?_, ?_, ?_, ?_, ?_⟩ <;> first | assumption | omega | (unfold endsMay; omega)
         · rintro ⟨q1, q2, q3, q4, q5, q6, q7, q8, q9, q10, q11, q12, q13⟩
           simp only [Bool.or_eq_true, beq_iff_eq, decide_eq_true_eq]
           omega)
end Go.Proofs.YtcleicjgeflbnaaGreat
