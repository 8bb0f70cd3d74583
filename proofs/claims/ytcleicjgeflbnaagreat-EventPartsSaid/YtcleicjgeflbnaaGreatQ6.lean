/- event.changed. Conditions: at most ten thousand changes. -/
import Derived.Test.YtcleicjgeflbnaaGreatQ4
namespace Go.Proofs.YtcleicjgeflbnaaGreat
open Go.RowKit Go.ChangeShapes Go.WideShapes Go.Deep
set_option linter.all false

theorem isAt_any (c : ChangeD) (x : Int) (b : Nat) (w : World) (hb : b < w.heap.size) (hc : w.cell? ⟨b, 0, none⟩ = some (.int .i64 x)) :
    Calls Tryz.prog 79 #[.agg #[.int .i64 c.at_, .int .i64 c.start, .int .i64 c.long], .pointer (some ⟨b, 0, none⟩)] w fun e w' => e = .returned (.bool (c.at_ == x)) ∧ Below w.heap.size w w' := by
  have HB := Lib.hid (show Below w.heap.size w (w.alloc (.cells #[.int .i64 c.at_, .int .i64 c.start, .int .i64 c.long] 47)) from belowA _ (Below.refl _ _))
  go_enter Tryz.func79, Tryz.ntmps79
  go_wp2_with fail
  go_ret
  exact ⟨rfl, HB.out⟩

set_option maxHeartbeats 4000000 in
set_option maxRecDepth 100000 in
theorem idxC_any (o : Option Addr) (n c : Nat) (xs : List ChangeD) (x : Int) (b : Nat) (w : World) (h : Row w 3 rChange (.slice o n c) xs) (hn : n ≤ 10000) (hb : b < w.heap.size) (hc : w.cell? ⟨b, 0, none⟩ = some (.int .i64 x)) :
    Calls Tryz.prog 112 #[.slice o n c, .func (.func 79) #[] #[.pointer (some ⟨b, 0, none⟩)]] w fun e w' => (∃ i : Int, e = .returned (.int .i64 i) ∧ -1 ≤ i ∧ (0 ≤ i ↔ ∃ c ∈ xs, c.at_ = x)) ∧ Below w.heap.size w w' := by
  have S := Lib.hid h
  have L := Lib.hid h.len
  have C := Lib.hid (fun cc W (hw : Below w.heap.size w W) => isAt_any cc x b W (Nat.lt_of_lt_of_le hb hw.size) ((hw.cell (p := ⟨b, 0, none⟩) hb).trans hc))
  clear h hb hc
  go_enter Tryz.func112, Tryz.ntmps112
  go_wp2_with fail
  go_loopw [8] (fun i wr => ∃ k : Nat, k ≤ n ∧ i = .int .i64 (k : Nat) ∧ Hid (Below w.heap.size w wr) ∧ Hid (∀ j c, j < k → xs[j]? = some c → c.at_ ≠ x)) (fun i _ => n - (intOf i).toNat)
  case atStart => exact ⟨0, Nat.zero_le _, rfl, Lib.hid (Below.refl _ _), fun j c h => absurd h (Nat.not_lt_zero _)⟩
  case round =>
    obtain ⟨k, hk, rfl, HB, I⟩ := hrel
    obtain ⟨wl, rfl⟩ : ∃ x, x = wr := ⟨_, rfl⟩
    by_cases hlt : k < n
    · have hlt' : (k : Int) < (n : Int) := by omega
      obtain ⟨y, a1, cs1, hx, rfl, q1, ⟨rfl, _, _⟩, q0, q2⟩ := S.out.elem HB.out k hlt
      have e0 := q0 (by decide)
      have e1 := q2 1 (by decide) (by decide)
      have e2 := q2 2 (by decide) (by decide)
      simp only [List.getElem?_cons_zero, List.getElem?_cons_succ] at e0 e1 e2
      have HX := Lib.hid hx
      have C1 := Lib.hid (C.out y wl HB.out)
      clear q0 q1 q2 hx
      by_cases hxy : y.at_ = x
      · have b1 : (y.at_ == x) = true := by simpa using hxy
        have HM := Lib.hid (show ∃ c ∈ xs, c.at_ = x from ⟨y, List.mem_of_getElem? HX.out, hxy⟩)
        clear hxy
        go_wp2_with fail
        (with_reducible refine C1.out.mono ?_)
        rintro e w1 ⟨rfl, hb1⟩
        have HB1 := Lib.hid (below_call HB.out hb1)
        clear hb1
        go_wp2_with fail
        go_ret
        exact ⟨⟨_, rfl, by omega, fun _ => HM.out, fun _ => by omega⟩, HB1.out⟩
      · have b1 : (y.at_ == x) = false := by simpa using hxy
        have J := Lib.hid (show ∀ j c, j < k + 1 → xs[j]? = some c → c.at_ ≠ x from fun j c hj hc => by
          by_cases e : j = k
          · subst e; rw [HX.out] at hc; cases hc; exact hxy
          · exact I.out j c (by omega) hc)
        clear hxy
        go_wp2_with fail
        (with_reducible refine C1.out.mono ?_)
        rintro e w1 ⟨rfl, hb1⟩
        have HB1 := Lib.hid (below_call HB.out hb1)
        clear hb1
        go_wp2_with fail
        go_roundw
        case measure => simp [intOf]; omega
        case rel => exact ⟨k + 1, by omega, by go_num, HB1, J.out⟩
    · go_wp2_with fail
      go_ret
      exact ⟨⟨-1, rfl, by omega, fun h => absurd h (by omega), fun ⟨c, hc, hx⟩ => by
        obtain ⟨j, hj⟩ := List.getElem?_of_mem hc
        exact absurd hx (I.out j c (by have := (List.getElem?_eq_some_iff.1 hj).1; have := L.out; omega) hj)⟩, HB.out⟩

/-- Is a time changed. -/
def changedE (e : EventD) (x : Int) : Prop := ∃ c ∈ e.changes, c.at_ = x

theorem contC_any (o : Option Addr) (n c : Nat) (xs : List ChangeD) (x : Int) (b : Nat) (w : World) (h : Row w 3 rChange (.slice o n c) xs) (hn : n ≤ 10000) (hb : b < w.heap.size) (hc : w.cell? ⟨b, 0, none⟩ = some (.int .i64 x)) :
    Calls Tryz.prog 78 #[.slice o n c, .func (.func 79) #[] #[.pointer (some ⟨b, 0, none⟩)]] w fun e w' => e = .returned (.bool (dec (∃ c ∈ xs, c.at_ = x))) ∧ Below w.heap.size w w' := by
  have C := Lib.hid (idxC_any o n c xs x b w h hn hb hc)
  clear h hn hb hc
  go_enter Tryz.func78, Tryz.ntmps78
  go_wp2_with fail
  (with_reducible refine C.out.mono ?_)
  rintro e w1 ⟨⟨i, rfl, hi1, hi2⟩, hb1⟩
  have HI := Lib.hid (And.intro hi2 hb1)
  clear hi2 hb1
  by_cases h : 0 ≤ i
  · have d1 := decide_eq_true h
    have HP := Lib.hid (HI.out.1.1 h)
    go_wp2_with fail
    go_ret
    exact ⟨ret_t HP.out, HI.out.2⟩
  · have d1 := decide_eq_false h
    have HP := Lib.hid (fun hx => h (HI.out.1.2 hx))
    go_wp2_with fail
    go_ret
    exact ⟨ret_f HP.out, HI.out.2⟩

set_option maxHeartbeats 4000000 in
theorem changed_any (cs : List Value) (e : EventD) (x : Int) (w : World) (h : rEvent w cs e) (hf : fewE e) :
    Calls Tryz.prog 56 #[.agg cs.toArray, .int .i64 x] w fun r w' => r = .returned (.bool (dec (changedE e x))) ∧ Below w.heap.size w w' := by
  obtain ⟨om, nm, cm, od, nd, cd, oy, ny, cy, op, np, cp, oe, ne, ce, ol, nl, cl, oc, nc, cc, rfl, SR, l1, l2, l3, R1, R2, R3, -, -⟩ := h.opn
  have HB := Lib.hid (show Below w.heap.size w ((w.alloc (.cells #[.int .i64 e.start, .int .i64 e.long, .bool e.world, .bool e.again, .int .i64 e.rule.freq, .int .i64 e.rule.interval, .int .i64 e.rule.count, .int .i64 e.rule.until_, .slice om nm cm, .slice od nd cd, .slice oy ny cy, .slice op np cp, .int .i64 e.rule.start, .slice oe ne ce, .slice ol nl cl, .slice oc nc cc] 32)).alloc (.cells #[.int .i64 x] 2)) from belowA _ (belowA _ (Below.refl _ _)))
  have C := Lib.hid (contC_any oc nc cc e.changes x (w.heap.size + 1) ((w.alloc (.cells #[.int .i64 e.start, .int .i64 e.long, .bool e.world, .bool e.again, .int .i64 e.rule.freq, .int .i64 e.rule.interval, .int .i64 e.rule.count, .int .i64 e.rule.until_, .slice om nm cm, .slice od nd cd, .slice oy ny cy, .slice op np cp, .int .i64 e.rule.start, .slice oe ne ce, .slice ol nl cl, .slice oc nc cc] 32)).alloc (.cells #[.int .i64 x] 2)) (R3.later' HB.out) (by have := hf.c; omega) (by simp) (by have h9 := (BxAt.new (w.alloc (.cells #[.int .i64 e.start, .int .i64 e.long, .bool e.world, .bool e.again, .int .i64 e.rule.freq, .int .i64 e.rule.interval, .int .i64 e.rule.count, .int .i64 e.rule.until_, .slice om nm cm, .slice od nd cd, .slice oy ny cy, .slice op np cp, .int .i64 e.rule.start, .slice oe ne ce, .slice ol nl cl, .slice oc nc cc] 32)) #[.int .i64 x] 2).cell 0; simpa using h9))
  clear SR l1 l2 l3 R1 R2 R3 hf h
  go_enter Tryz.func56, Tryz.ntmps56
  go_wp2_with fail
  (with_reducible refine C.out.mono ?_)
  rintro q w1 ⟨rfl, hb1⟩
  have HB1 := Lib.hid (below_call HB.out hb1 (by simp <;> omega))
  clear hb1
  go_wp2_with fail
  go_ret
  exact ⟨rfl, HB1.out⟩
end Go.Proofs.YtcleicjgeflbnaaGreat
