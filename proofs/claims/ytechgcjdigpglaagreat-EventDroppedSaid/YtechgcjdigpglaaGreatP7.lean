/- ref11.Great, Same. No condition but that the arguments read. -/
import Derived.Test.YtechgcjdigpglaaGreatQ12
import Derived.Test.YtechgcjdigpglaaGreatV15
namespace Go.Proofs.YtechgcjdigpglaaGreat
open Go.RowKit Go.ChangeShapes Go.WideShapes Go.Deep
set_option linter.all false

def greatE (e : EventD) : Prop := 100 < e.ex.length ∨ 100 < e.plus.length ∨ 100 < e.changes.length ∨ greatR e.rule
theorem fewE_of {e : EventD} (h : ¬ greatE e) : fewE e := by
  unfold greatE at h
  exact ⟨few_of fun hr => h (.inr (.inr (.inr hr))), by omega, by omega, by omega⟩
set_option maxRecDepth 100000 in
set_option maxHeartbeats 8000000 in
theorem greatE_any (cs : List Value) (e : EventD) (w : World) (h : rEvent w cs e) :
    Calls Tryz.prog 11 #[.agg cs.toArray] w fun r w' => r = .returned (.bool (dec (greatE e))) ∧ Below w.heap.size w w' := by
  obtain ⟨om, nm, cm, od, nd, cd, oy, ny, cy, op, np, cp, oe, ne, ce, ol, nl, cl, oc, nc, cc, rfl, SR, l1, l2, l3, R1, R2, R3, -, -⟩ := h.opn
  have HG := Lib.hid (show greatE e ↔ (100 < ne ∨ 100 < nl ∨ 100 < nc ∨ greatR e.rule) by unfold greatE; rw [l1, l2, l3])
  have HB := Lib.hid (show Below w.heap.size w (w.alloc (.cells #[.int .i64 e.start, .int .i64 e.long, .bool e.world, .bool e.again, .int .i64 e.rule.freq, .int .i64 e.rule.interval, .int .i64 e.rule.count, .int .i64 e.rule.until_, .slice om nm cm, .slice od nd cd, .slice oy ny cy, .slice op np cp, .int .i64 e.rule.start, .slice oe ne ce, .slice ol nl cl, .slice oc nc cc] 32)) from belowA _ (Below.refl _ _))
  have C := Lib.hid (fun (W : World) (hb : Below w.heap.size w W) => great_any _ _ W (SR.later hb))
  clear R1 R2 R3 SR l1 l2 l3 h
  go_enter Tryz.func11, Tryz.ntmps11
  go_wp2_with (go_at_call 40; ((with_reducible refine (C.out _ HB.out).mono ?_)); rintro q w1 ⟨rfl, hb1⟩; have HB1 := Lib.hid (below_call HB.out hb1); clear hb1)
  all_goals go_ret
  all_goals refine ⟨ret_dec ?_, by first | exact HB1.out | exact HB.out⟩
  all_goals rw [HG.out]
  all_goals clear HG HB C
  all_goals (try simp only [Bool.or_eq_true, Bool.true_or, Bool.or_true, Bool.false_or, decide_eq_true_eq, true_iff, dec_iff, Int.not_lt] at *)
  all_goals grind

/-- How a span lies. -/
def rSp (cs : List Value) (s : Int × Int) : Prop := cs = encSp s
theorem own_sp {W : World} {B : Nat} {e : TypeId} {v : Value} {L : List (Int × Int)} (h : W.ownsRow B e 2 v L.length (spC L)) : Row W 2 rSp v L :=
  row_own encSp rSp h fun x _ => ⟨rfl, rfl⟩

set_option maxHeartbeats 4000000 in
set_option maxRecDepth 100000 in
theorem sameSp_any (v1 v2 : Value) (r1 r2 : List (Int × Int)) (w : World) (h1 : Row w 2 rSp v1 r1) (h2 : Row w 2 rSp v2 r2) :
    Calls Tryz.prog 15 #[v1, v2] w fun e w' => e = .returned (.bool (dec (r1 = r2))) ∧ ∃ m, w' = w.drewN m := by
  obtain ⟨o1, n1, c1, rfl, l1, m1, k1, e1⟩ := h1.view
  obtain ⟨o2, n2, c2, rfl, l2, m2, k2, e2⟩ := h2.view
  clear h1 h2
  by_cases hn : n1 = n2
  · subst hn
    have L1 := Lib.hid l1; have L2 := Lib.hid l2; have E1 := Lib.hid e1; have E2 := Lib.hid e2
    clear l1 l2 e1 e2
    have hM : n1 < 9223372036854775808 := by (unfold maxLen at k1; omega)
    go_enter Tryz.func15, Tryz.ntmps15
    go_wp2_with fail
    go_loopw [13] (fun a wr => ∃ (k : Nat) (q : Nat), k ≤ n1 ∧ a = .int .i64 k ∧ wr = w.drewN q ∧ ∀ i, i < k → r1[i]? = r2[i]?) (fun a _ => n1 - (intOf a).toNat)
    case atStart => exact ⟨0, 0, Nat.zero_le _, rfl, rfl, fun i hi => absurd hi (by omega)⟩
    case round =>
      obtain ⟨k, q, hk, rfl, rfl, heq⟩ := hrel
      have HEQ := Lib.hid heq
      clear heq
      by_cases hlt : k < n1
      · obtain ⟨x, a1, cs1, hx, rfl, q1, q3, q0, q2⟩ := E1.out k hlt
        obtain ⟨y, a2, cs2, hy, rfl, p1, p3, p0, p2⟩ := E2.out k hlt
        rcases x with ⟨x0, x1⟩
        rcases y with ⟨y0, y1⟩
        obtain rfl := q3
        obtain rfl := p3
        have hc0 := q0 (by decide); have hd0 := p0 (by decide)
        have hc1 := q2 1 (by decide) (by decide); have hd1 := p2 1 (by decide) (by decide)
        simp only [encSp, List.getElem?_cons_zero, List.getElem?_cons_succ] at hc0 hd0 hc1 hd1
        have Hx := Lib.hid hx; have Hy := Lib.hid hy
        clear q0 q1 q2 p0 p1 p2 hx hy E1 E2
        have hlt' : (k : Int) < (n1 : Int) := by omega
        by_cases h0 : x0 = y0
        · subst h0
          by_cases h1 : x1 = y1
          · subst h1
            go_wp2; go_quiet (fail); go_wp2; go_roundw
            case measure => simp [intOf]; omega
            case rel =>
            refine ⟨k + 1, _, by omega, by go_num, rfl, fun i hi => ?_⟩
            by_cases hik : i = k
            · rw [hik, Hx.out, Hy.out]
            · exact HEQ.out i (by omega)
          · have g1 : (x1 == y1) = false := by rw [beq_eq_false_iff_ne]; exact h1
            have H1 := Lib.hid h1; clear h1
            go_wp2; go_quiet (fail); go_wp2; go_ret
            exact ⟨ret_f (fun e => rows_ne' k Hx.out Hy.out (fun e => H1.out (by cases e; rfl)) (by cases e; rfl)), _, World.drewN_drewN ..⟩
        · have g0 : (x0 == y0) = false := by rw [beq_eq_false_iff_ne]; exact h0
          have H0 := Lib.hid h0; clear h0
          go_wp2; go_quiet (fail); go_wp2; go_ret
          exact ⟨ret_f (fun e => rows_ne' k Hx.out Hy.out (fun e => H0.out (by cases e; rfl)) (by cases e; rfl)), _, World.drewN_drewN ..⟩
      · obtain rfl : k = n1 := by omega
        go_wp2
        go_ret
        exact ⟨ret_t (rows_eq' L1.out L2.out HEQ.out), _, rfl⟩
  · have hn' : ((n1 : Int) == n2) = false := by rw [beq_eq_false_iff_ne]; omega
    have hn'' : ((n1 : Int) != n2) = true := by rw [bne_iff_ne]; omega
    have L1 := Lib.hid l1; have L2 := Lib.hid l2; have H := Lib.hid hn
    clear l1 l2 hn e1 e2
    go_enter Tryz.func15, Tryz.ntmps15
    go_wp2
    go_ret
    exact ⟨ret_f (fun e => H.out (by rw [← L1.out, ← L2.out, e])), 0, rfl⟩
end Go.Proofs.YtechgcjdigpglaaGreat
