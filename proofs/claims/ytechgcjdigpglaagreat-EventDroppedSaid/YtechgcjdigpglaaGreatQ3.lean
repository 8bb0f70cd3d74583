/- event: May. Conditions: the event reads, its rows are not too long. -/
import Derived.Test.YtechgcjdigpglaaGreatQ2
import Derived.Test.YtechgcjdigpglaaGreatX3
namespace Go.Proofs.YtechgcjdigpglaaGreat
open Go.RowKit Go.ChangeShapes Go.WideShapes Go.Deep
set_option linter.all false

def nilR : RuleD := ⟨0, 0, 0, 0, [], [], [], [], 0⟩
theorem nilR_reads (w : World) : rRule w [.int .i64 0, .int .i64 0, .int .i64 0, .int .i64 0, .slice none 0 0, .slice none 0 0, .slice none 0 0, .slice none 0 0, .int .i64 0] nilR :=
  ⟨_, _, _, _, rfl, (by simp [nilR, wfi, IntKind.min, IntKind.max, IntKind.bits, IntKind.signed]), (by simp [nilR, wfi, IntKind.min, IntKind.max, IntKind.bits, IntKind.signed]), (by simp [nilR, wfi, IntKind.min, IntKind.max, IntKind.bits, IntKind.signed]), (by simp [nilR, wfi, IntKind.min, IntKind.max, IntKind.bits, IntKind.signed]), (by simp [nilR, wfi, IntKind.min, IntKind.max, IntKind.bits, IntKind.signed]), nil_row _ _ _, nil_row _ _ _, nil_row _ _ _, nil_row _ _ _⟩
/-- May an event be. -/
def mayE (e : EventD) : Prop := startOk e.start ∧ 1 ≤ e.long ∧ e.long ≤ 10080 ∧
  (e.again = false → e.rule = nilR ∧ e.ex.length = 0 ∧ e.plus.length = 0 ∧ e.changes.length = 0) ∧
  (e.again = true → e.world = false ∧ mayR e.rule ∧ rowE e.ex ∧ rowE e.plus ∧ changesE e.changes)
structure fewE (e : EventD) : Prop where
  r : fewR e.rule
  x : e.ex.length ≤ 10000
  p : e.plus.length ≤ 10000
  c : e.changes.length ≤ 10000

theorem rEvent.opn {w : World} {cs : List Value} {e : EventD} (h : rEvent w cs e) : ∃ om nm cm od nd cd oy ny cy op np cp oe ne ce ol nl cl oc nc cc,
    cs = [.int .i64 e.start, .int .i64 e.long, .bool e.world, .bool e.again, .int .i64 e.rule.freq, .int .i64 e.rule.interval, .int .i64 e.rule.count, .int .i64 e.rule.until_, .slice om nm cm, .slice od nd cd, .slice oy ny cy, .slice op np cp, .int .i64 e.rule.start, .slice oe ne ce, .slice ol nl cl, .slice oc nc cc] ∧ rRule w [.int .i64 e.rule.freq, .int .i64 e.rule.interval, .int .i64 e.rule.count, .int .i64 e.rule.until_, .slice om nm cm, .slice od nd cd, .slice oy ny cy, .slice op np cp, .int .i64 e.rule.start] e.rule ∧ e.ex.length = ne ∧ e.plus.length = nl ∧ e.changes.length = nc ∧
    Row w 1 (rI .i64) (.slice oe ne ce) e.ex ∧ Row w 1 (rI .i64) (.slice ol nl cl) e.plus ∧ Row w 3 rChange (.slice oc nc cc) e.changes ∧ wfi .i64 e.start ∧ wfi .i64 e.long := by
  obtain ⟨r, x, p, c, rfl, h1, h2, hR, hx, hp, hc⟩ := h
  have SR := hR
  obtain ⟨m, d, y, q, rfl, -, -, -, -, -, hm, hd, hy, hq⟩ := hR
  obtain ⟨om, nm, cm, rfl, -, -, -, -⟩ := hm.open
  obtain ⟨od, nd, cd, rfl, -, -, -, -⟩ := hd.open
  obtain ⟨oy, ny, cy, rfl, -, -, -, -⟩ := hy.open
  obtain ⟨op, np, cp, rfl, -, -, -, -⟩ := hq.open
  obtain ⟨oe, ne, ce, rfl, l1, -, -, R1⟩ := hx.open
  obtain ⟨ol, nl, cl, rfl, l2, -, -, R2⟩ := hp.open
  obtain ⟨oc, nc, cc, rfl, l3, -, -, R3⟩ := hc.open
  exact ⟨om, nm, cm, od, nd, cd, oy, ny, cy, op, np, cp, oe, ne, ce, ol, nl, cl, oc, nc, cc, rfl, SR, l1, l2, l3, R1, R2, R3, h1, h2⟩

set_option maxHeartbeats 20000000 in
set_option maxRecDepth 100000 in
theorem mayE_any (cs : List Value) (e : EventD) (w : World) (h : rEvent w cs e) (hf : fewE e) :
    Calls Tryz.prog 13 #[.agg cs.toArray] w fun r w' => r = .returned (.bool (dec (mayE e))) ∧ Below w.heap.size w w' := by
  obtain ⟨om, nm, cm, od, nd, cd, oy, ny, cy, op, np, cp, oe, ne, ce, ol, nl, cl, oc, nc, cc, rfl, SR, l1, l2, l3, R1, R2, R3, -, -⟩ := h.opn
  have L1 := Lib.hid l1; have L2 := Lib.hid l2; have L3 := Lib.hid l3
  have b1 : ne ≤ 10000 := by have := hf.x; omega
  have b2 : nl ≤ 10000 := by have := hf.p; omega
  have b3 : nc ≤ 10000 := by have := hf.c; omega
  have HB := Lib.hid (show Below w.heap.size w (w.alloc (.cells #[.int .i64 e.start, .int .i64 e.long, .bool e.world, .bool e.again, .int .i64 e.rule.freq, .int .i64 e.rule.interval, .int .i64 e.rule.count, .int .i64 e.rule.until_, .slice om nm cm, .slice od nd cd, .slice oy ny cy, .slice op np cp, .int .i64 e.rule.start, .slice oe ne ce, .slice ol nl cl, .slice oc nc cc] 32)) from belowA _ (Below.refl _ _))
  have ST := Lib.hid (fun W => stampE_any e.start W)
  have CS := Lib.hid (fun (W : World) (hb : Below w.heap.size w W) => same_any _ _ _ _ W (SR.later hb) (nilR_reads W))
  have CM := Lib.hid (fun (W : World) (hb : Below w.heap.size w W) => may_any _ _ W (SR.later hb) hf.r)
  have C1 := Lib.hid (fun (W : World) (hb : Below w.heap.size w W) => rowE_any _ _ W (R1.later' hb) hf.x)
  have C2 := Lib.hid (fun (W : World) (hb : Below w.heap.size w W) => rowE_any _ _ W (R2.later' hb) hf.p)
  have C3 := Lib.hid (fun (W : World) (hb : Below w.heap.size w W) => changesE_any _ _ W (R3.later' hb) hf.c)
  have hs1 : wrap64 ((ne : Int) + (nl : Int)) = (ne : Int) + (nl : Int) := by unfold wrap64; omega
  have hs2 : wrap64 ((ne : Int) + (nl : Int) + (nc : Int)) = (ne : Int) + (nl : Int) + (nc : Int) := by unfold wrap64; omega
  have hs3 : IntKind.i64.wrap ((ne : Int) + (nl : Int)) = (ne : Int) + (nl : Int) := by rw [IntKind.wrap_i64]; omega
  have hs4 : IntKind.i64.wrap ((ne : Int) + (nl : Int) + (nc : Int)) = (ne : Int) + (nl : Int) + (nc : Int) := by rw [IntKind.wrap_i64]; omega
  clear R1 R2 R3 SR l1 l2 l3 b1 b2 b3 hf h
  cases ha : e.again with
  | false =>
    have HA := Lib.hid ha
    simp only [ha] at HB
    clear ha
    go_enter Tryz.func13, Tryz.ntmps13
    go_wp2_with (first
      | (go_at_call 41; ((with_reducible refine (ST.out _).mono ?_)); rintro q w1 ⟨rfl, hw2⟩; obtain rfl := hw2.symm)
      | (go_at_call 42; ((with_reducible refine (CS.out _ HB.out).mono ?_)); rintro q w1 ⟨rfl, hb1⟩; have kA1 : ∀ j, World.cell? w1 ⟨w.heap.size, j, none⟩ = World.cell? (w.alloc (.cells #[.int .i64 e.start, .int .i64 e.long, .bool e.world, .bool false, .int .i64 e.rule.freq, .int .i64 e.rule.interval, .int .i64 e.rule.count, .int .i64 e.rule.until_, .slice om nm cm, .slice od nd cd, .slice oy ny cy, .slice op np cp, .int .i64 e.rule.start, .slice oe ne ce, .slice ol nl cl, .slice oc nc cc] 32)) ⟨w.heap.size, j, none⟩ := fun j => hb1.cell (by simp); have hz1 : w.heap.size < w1.heap.size := Nat.lt_of_lt_of_le (by simp) hb1.size; have HB1 := Lib.hid (below_call HB.out hb1); clear hb1))
    all_goals go_ret
    all_goals refine ⟨ret_dec ?_, by first | exact HB1.out | exact HB.out⟩
    all_goals have e1 := L1.out
    all_goals have e2 := L2.out
    all_goals have e3 := L3.out
    all_goals have e4 := HA.out
    all_goals clear L1 L2 L3 HA HB ST CS CM C1 C2 C3
    all_goals unfold mayE
    all_goals simp only [decide_eq_true_eq, beq_iff_eq, Bool.false_eq_true, false_iff, dec_iff] at *
    all_goals first
      | (rintro ⟨q1, q2, q3, q4, q5⟩; first | omega | contradiction | (obtain ⟨z1, z2, z3, z4⟩ := q4 e4; first | contradiction | omega) | (obtain ⟨z1, z2, z3, z4, z5⟩ := q5 e4; first | contradiction | omega))
      | (constructor
         · intro hh; exact ⟨‹startOk e.start›, by omega, by omega, fun _ => ⟨‹e.rule = nilR›, by omega, by omega, by omega⟩, fun h => by rw [e4] at h; cases h⟩
         · rintro ⟨_, _, _, q4, _⟩; have := q4 e4; omega)
      | (constructor
         · intro hh; exact ⟨‹startOk e.start›, by omega, by omega, (fun h => by rw [e4] at h; cases h), fun _ => ⟨e5, ‹mayR e.rule›, ‹rowE e.ex›, ‹rowE e.plus›, hh⟩⟩
         · rintro ⟨_, _, _, _, q5⟩; exact (q5 e4).2.2.2.2)
      | trace_state
  | true =>
    cases hwo : e.world with
    | true =>
      have HN := Lib.hid (show ¬ mayE e from fun h => by have := (h.2.2.2.2 ha).1; rw [hwo] at this; cases this)
      simp only [ha, hwo] at HB
      clear ha hwo
      go_enter Tryz.func13, Tryz.ntmps13
      go_wp2_with (go_at_call 41; ((with_reducible refine (ST.out _).mono ?_)); rintro q w1 ⟨rfl, hw2⟩; obtain rfl := hw2.symm)
      all_goals go_ret
      all_goals exact ⟨ret_f HN.out, HB.out⟩
    | false =>
      have HA := Lib.hid (And.intro ha hwo)
      simp only [ha, hwo] at HB
      clear ha hwo
      go_enter Tryz.func13, Tryz.ntmps13
      go_wp2_with (first
        | (go_at_call 41; ((with_reducible refine (ST.out _).mono ?_)); rintro q w1 ⟨rfl, hw2⟩; obtain rfl := hw2.symm)
        | (go_at_call 43; ((with_reducible refine (CM.out _ HB.out).mono ?_)); rintro q w1 ⟨rfl, hb1⟩; have kA1 : ∀ j, World.cell? w1 ⟨w.heap.size, j, none⟩ = World.cell? (w.alloc (.cells #[.int .i64 e.start, .int .i64 e.long, .bool false, .bool true, .int .i64 e.rule.freq, .int .i64 e.rule.interval, .int .i64 e.rule.count, .int .i64 e.rule.until_, .slice om nm cm, .slice od nd cd, .slice oy ny cy, .slice op np cp, .int .i64 e.rule.start, .slice oe ne ce, .slice ol nl cl, .slice oc nc cc] 32)) ⟨w.heap.size, j, none⟩ := fun j => hb1.cell (by simp); have hz1 : w.heap.size < w1.heap.size := Nat.lt_of_lt_of_le (by simp) hb1.size; have HB1 := Lib.hid (below_call HB.out hb1); clear hb1)
        | (go_at_call 44; ((with_reducible refine (C1.out _ HB1.out).mono ?_)); rintro q w1 ⟨rfl, hw2⟩; obtain rfl := hw2.symm)
        | (go_at_call 44; ((with_reducible refine (C2.out _ HB1.out).mono ?_)); rintro q w1 ⟨rfl, hw2⟩; obtain rfl := hw2.symm)
        | (go_at_call 45; ((with_reducible refine (C3.out _ HB1.out).mono ?_)); rintro q w2 ⟨rfl, hb2⟩; have kA2 : ∀ j, World.cell? w2 ⟨w.heap.size, j, none⟩ = World.cell? (w.alloc (.cells #[.int .i64 e.start, .int .i64 e.long, .bool false, .bool true, .int .i64 e.rule.freq, .int .i64 e.rule.interval, .int .i64 e.rule.count, .int .i64 e.rule.until_, .slice om nm cm, .slice od nd cd, .slice oy ny cy, .slice op np cp, .int .i64 e.rule.start, .slice oe ne ce, .slice ol nl cl, .slice oc nc cc] 32)) ⟨w.heap.size, j, none⟩ := fun j => (hb2.cell hz1).trans (kA1 j); have hz2 : w.heap.size < w2.heap.size := Nat.lt_of_lt_of_le hz1 hb2.size; have HB2 := Lib.hid (below_call HB1.out hb2); clear hb2 kA1 hz1))
      all_goals go_ret
      all_goals refine ⟨ret_dec ?_, by first | exact HB2.out | exact HB1.out | exact HB.out⟩
      all_goals obtain ⟨e4, e5⟩ := HA.out
      all_goals clear L1 L2 L3 HA HB ST CS CM C1 C2 C3 hs1 hs2 hs3 hs4
      all_goals unfold mayE
      all_goals simp only [decide_eq_true_eq, Bool.false_eq_true, false_iff, dec_iff] at *
      all_goals first
        | (rintro ⟨q1, q2, q3, q4, q5⟩; first | omega | contradiction | (obtain ⟨z1, z2, z3, z4⟩ := q4 e4; first | contradiction | omega) | (obtain ⟨z1, z2, z3, z4, z5⟩ := q5 e4; first | contradiction | omega))
        | (constructor
           · intro hh; exact ⟨‹startOk e.start›, by omega, by omega, fun _ => ⟨‹e.rule = nilR›, by omega, by omega, by omega⟩, fun h => by rw [e4] at h; cases h⟩
           · rintro ⟨_, _, _, q4, _⟩; have := q4 e4; omega)
        | (constructor
           · intro hh; exact ⟨‹startOk e.start›, by omega, by omega, (fun h => by rw [e4] at h; cases h), fun _ => ⟨e5, ‹mayR e.rule›, ‹rowE e.ex›, ‹rowE e.plus›, hh⟩⟩
           · rintro ⟨_, _, _, _, q5⟩; exact (q5 e4).2.2.2.2)
        | trace_state
end Go.Proofs.YtechgcjdigpglaaGreat
