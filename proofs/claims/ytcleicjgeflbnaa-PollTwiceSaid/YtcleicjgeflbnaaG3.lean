/- Walks of the functions that compare two slices: each answers whether what they read as is the same. No condition but that the arguments read. -/
import Derived.Test.YtcleicjgeflbnaaG2
import Derived.Test.YtcleicjgeflbnaaProg
import Derived.Laws.BytesArg
import Derived.KernelRfl
import Derived.IntWalk
import Derived.OwnWalk
import Derived.Deep.QuietTactic
import Derived.BigQuiet
import Derived.Lib.Hide
namespace Go.Proofs.Ytcleicjgeflbnaa
open Go.RowKit Go.ChangeShapes Go.WideShapes Go.Deep

open Classical in
/-- What a comparison answers. -/
noncomputable def dec (p : Prop) : Bool := decide p
theorem dec_t {p : Prop} (h : p) : dec p = true := by unfold dec; simp [h]
theorem dec_f {p : Prop} (h : ¬ p) : dec p = false := by unfold dec; simp [h]
theorem dec_iff {p : Prop} : dec p = true ↔ p := by unfold dec; simp
theorem ret_t {p : Prop} (h : p) : Ending.returned (.bool true) = Ending.returned (.bool (dec p)) := by rw [dec_t h]
theorem ret_f {p : Prop} (h : ¬ p) : Ending.returned (.bool false) = Ending.returned (.bool (dec p)) := by rw [dec_f h]

theorem rows_eq' {α : Type} {r1 r2 : List α} {n : Nat} (h1 : r1.length = n) (h2 : r2.length = n) (h : ∀ i, i < n → r1[i]? = r2[i]?) : r1 = r2 := by
  apply List.ext_getElem? (fun i => ?_)
  by_cases hi : i < n
  · exact h i hi
  · rw [List.getElem?_eq_none (by omega), List.getElem?_eq_none (by omega)]
theorem rows_ne' {α : Type} {r1 r2 : List α} (k : Nat) {x y : α} (hx : r1[k]? = some x) (hy : r2[k]? = some y) (h : x ≠ y) : r1 ≠ r2 := fun e => h (by rw [e, hy] at hx; exact (Option.some.inj hx).symm)

theorem c_t {P : Program} {f : FuncId} {args : Array Value} {w : World} {p : Prop} {Q : World → Prop} (h : Calls P f args w fun e w' => e = .returned (.bool (dec p)) ∧ Q w') (hp : p) : Calls P f args w fun e w' => e = .returned (.bool true) ∧ Q w' := by rw [dec_t hp] at h; exact h
theorem c_f {P : Program} {f : FuncId} {args : Array Value} {w : World} {p : Prop} {Q : World → Prop} (h : Calls P f args w fun e w' => e = .returned (.bool (dec p)) ∧ Q w') (hp : ¬ p) : Calls P f args w fun e w' => e = .returned (.bool false) ∧ Q w' := by rw [dec_f hp] at h; exact h
theorem below_call {w0 w w1 w2 : World} (h1 : Below w0.heap.size w w1) (h2 : Below w1.heap.size w1 w2) (hB : w0.heap.size ≤ w.heap.size := by omega) : Below w0.heap.size w w2 := by
  have := h1.size
  exact h1.trans (h2.mono (by omega))
theorem below_drewN {B : Nat} {a w : World} (h : Below B a w) (n : Nat) : Below B a (w.drewN n) := ⟨h.os, h.tape, h.output, h.size, h.block⟩

set_option maxHeartbeats 2000000 in
theorem ints_any (v1 v2 : Value) (r1 r2 : List Int) (w : World) (h1 : Row w 1 (rI .i64) v1 r1) (h2 : Row w 1 (rI .i64) v2 r2) :
    Calls Try.prog 50 #[v1, v2] w fun e w' => e = .returned (.bool (dec (r1 = r2))) ∧ ∃ m, w' = w.drewN m := by
  obtain ⟨o1, n1, c1, rfl, l1, m1, k1, e1⟩ := h1.view
  obtain ⟨o2, n2, c2, rfl, l2, m2, k2, e2⟩ := h2.view
  clear h1 h2
  by_cases hn : n1 = n2
  · subst hn
    have L1 := Lib.hid l1; have L2 := Lib.hid l2; have E1 := Lib.hid e1; have E2 := Lib.hid e2
    clear l1 l2 e1 e2
    have hM : n1 < 9223372036854775808 := by (unfold maxLen at k1; omega)
    go_enter Try.func50, Try.ntmps50
    go_wp2_with fail
    go_loopw [13] (fun a wr => ∃ (k : Nat) (q : Nat), k ≤ n1 ∧ a = .int .i64 k ∧ wr = w.drewN q ∧ ∀ i, i < k → r1[i]? = r2[i]?) (fun a _ => n1 - (intOf a).toNat)
    case atStart => exact ⟨0, 0, Nat.zero_le _, rfl, rfl, fun i hi => absurd hi (by omega)⟩
    case round =>
      obtain ⟨k, q, hk, rfl, rfl, heq⟩ := hrel
      have HEQ := Lib.hid heq
      clear heq
      by_cases hlt : k < n1
      · obtain ⟨x, a1, cs1, hx, rfl, q1, q3, q0, q2⟩ := E1.out k hlt
        obtain ⟨y, a2, cs2, hy, rfl, p1, p3, p0, p2⟩ := E2.out k hlt
        obtain ⟨rfl, _⟩ := q3
        obtain ⟨rfl, _⟩ := p3
        have hc0 := q0 (by decide); have hd0 := p0 (by decide)
        simp only [Nat.mul_one, List.getElem?_cons_zero] at hc0 hd0
        have Hx := Lib.hid hx; have Hy := Lib.hid hy
        clear q0 q1 q2 p0 p1 p2 hx hy E1 E2
        have hlt' : (k : Int) < (n1 : Int) := by omega
        by_cases h0 : x = y
        · have g0 : (x == y) = true := by rw [h0]; simp
          have H0 := Lib.hid h0
          clear h0
          go_wp2
          go_quiet (fail)
          go_wp2
          go_roundw
          case measure => simp [intOf]; omega
          case rel =>
          refine ⟨k + 1, _, by omega, by go_num, rfl, fun i hi => ?_⟩
          by_cases hik : i = k
          · rw [hik, Hx.out, Hy.out]
            have f0 := H0.out
            rw [f0]
          · exact HEQ.out i (by omega)
        · have g0 : (x == y) = false := by rw [beq_eq_false_iff_ne]; exact h0
          have H0 := Lib.hid h0
          clear h0
          go_wp2
          go_quiet (fail)
          go_wp2
          go_ret
          exact ⟨ret_f (rows_ne' k Hx.out Hy.out (fun e => H0.out (by rw [e]))), _, World.drewN_drewN ..⟩
      · obtain rfl : k = n1 := by omega
        go_wp2
        go_ret
        exact ⟨ret_t (rows_eq' L1.out L2.out HEQ.out), _, rfl⟩
  · have hn' : ((n1 : Int) == n2) = false := by rw [beq_eq_false_iff_ne]; omega
    have L1 := Lib.hid l1; have L2 := Lib.hid l2; have H := Lib.hid hn
    clear l1 l2 hn e1 e2
    go_enter Try.func50, Try.ntmps50
    go_wp2
    go_ret
    exact ⟨ret_f (fun e => H.out (by rw [← L1.out, ← L2.out, e])), 0, rfl⟩
set_option maxHeartbeats 2000000 in
theorem ints9_any (v1 v2 : Value) (r1 r2 : List Int) (w : World) (h1 : Row w 1 (rI .i64) v1 r1) (h2 : Row w 1 (rI .i64) v2 r2) :
    Calls Try.prog 59 #[v1, v2] w fun e w' => e = .returned (.bool (dec (r1 = r2))) ∧ ∃ m, w' = w.drewN m := by
  obtain ⟨o1, n1, c1, rfl, l1, m1, k1, e1⟩ := h1.view
  obtain ⟨o2, n2, c2, rfl, l2, m2, k2, e2⟩ := h2.view
  clear h1 h2
  by_cases hn : n1 = n2
  · subst hn
    have L1 := Lib.hid l1; have L2 := Lib.hid l2; have E1 := Lib.hid e1; have E2 := Lib.hid e2
    clear l1 l2 e1 e2
    have hM : n1 < 9223372036854775808 := by (unfold maxLen at k1; omega)
    go_enter Try.func59, Try.ntmps59
    go_wp2_with fail
    go_loopw [13] (fun a wr => ∃ (k : Nat) (q : Nat), k ≤ n1 ∧ a = .int .i64 k ∧ wr = w.drewN q ∧ ∀ i, i < k → r1[i]? = r2[i]?) (fun a _ => n1 - (intOf a).toNat)
    case atStart => exact ⟨0, 0, Nat.zero_le _, rfl, rfl, fun i hi => absurd hi (by omega)⟩
    case round =>
      obtain ⟨k, q, hk, rfl, rfl, heq⟩ := hrel
      have HEQ := Lib.hid heq
      clear heq
      by_cases hlt : k < n1
      · obtain ⟨x, a1, cs1, hx, rfl, q1, q3, q0, q2⟩ := E1.out k hlt
        obtain ⟨y, a2, cs2, hy, rfl, p1, p3, p0, p2⟩ := E2.out k hlt
        obtain ⟨rfl, _⟩ := q3
        obtain ⟨rfl, _⟩ := p3
        have hc0 := q0 (by decide); have hd0 := p0 (by decide)
        simp only [Nat.mul_one, List.getElem?_cons_zero] at hc0 hd0
        have Hx := Lib.hid hx; have Hy := Lib.hid hy
        clear q0 q1 q2 p0 p1 p2 hx hy E1 E2
        have hlt' : (k : Int) < (n1 : Int) := by omega
        by_cases h0 : x = y
        · have g0 : (x == y) = true := by rw [h0]; simp
          have H0 := Lib.hid h0
          clear h0
          go_wp2
          go_quiet (fail)
          go_wp2
          go_roundw
          case measure => simp [intOf]; omega
          case rel =>
          refine ⟨k + 1, _, by omega, by go_num, rfl, fun i hi => ?_⟩
          by_cases hik : i = k
          · rw [hik, Hx.out, Hy.out]
            have f0 := H0.out
            rw [f0]
          · exact HEQ.out i (by omega)
        · have g0 : (x == y) = false := by rw [beq_eq_false_iff_ne]; exact h0
          have H0 := Lib.hid h0
          clear h0
          go_wp2
          go_quiet (fail)
          go_wp2
          go_ret
          exact ⟨ret_f (rows_ne' k Hx.out Hy.out (fun e => H0.out (by rw [e]))), _, World.drewN_drewN ..⟩
      · obtain rfl : k = n1 := by omega
        go_wp2
        go_ret
        exact ⟨ret_t (rows_eq' L1.out L2.out HEQ.out), _, rfl⟩
  · have hn' : ((n1 : Int) == n2) = false := by rw [beq_eq_false_iff_ne]; omega
    have L1 := Lib.hid l1; have L2 := Lib.hid l2; have H := Lib.hid hn
    clear l1 l2 hn e1 e2
    go_enter Try.func59, Try.ntmps59
    go_wp2
    go_ret
    exact ⟨ret_f (fun e => H.out (by rw [← L1.out, ← L2.out, e])), 0, rfl⟩
set_option maxHeartbeats 2000000 in
theorem longs_any (v1 v2 : Value) (r1 r2 : List Int) (w : World) (h1 : Row w 1 (rI .i64) v1 r1) (h2 : Row w 1 (rI .i64) v2 r2) :
    Calls Try.prog 40 #[v1, v2] w fun e w' => e = .returned (.bool (dec (r1 = r2))) ∧ ∃ m, w' = w.drewN m := by
  obtain ⟨o1, n1, c1, rfl, l1, m1, k1, e1⟩ := h1.view
  obtain ⟨o2, n2, c2, rfl, l2, m2, k2, e2⟩ := h2.view
  clear h1 h2
  by_cases hn : n1 = n2
  · subst hn
    have L1 := Lib.hid l1; have L2 := Lib.hid l2; have E1 := Lib.hid e1; have E2 := Lib.hid e2
    clear l1 l2 e1 e2
    have hM : n1 < 9223372036854775808 := by (unfold maxLen at k1; omega)
    go_enter Try.func40, Try.ntmps40
    go_wp2_with fail
    go_loopw [13] (fun a wr => ∃ (k : Nat) (q : Nat), k ≤ n1 ∧ a = .int .i64 k ∧ wr = w.drewN q ∧ ∀ i, i < k → r1[i]? = r2[i]?) (fun a _ => n1 - (intOf a).toNat)
    case atStart => exact ⟨0, 0, Nat.zero_le _, rfl, rfl, fun i hi => absurd hi (by omega)⟩
    case round =>
      obtain ⟨k, q, hk, rfl, rfl, heq⟩ := hrel
      have HEQ := Lib.hid heq
      clear heq
      by_cases hlt : k < n1
      · obtain ⟨x, a1, cs1, hx, rfl, q1, q3, q0, q2⟩ := E1.out k hlt
        obtain ⟨y, a2, cs2, hy, rfl, p1, p3, p0, p2⟩ := E2.out k hlt
        obtain ⟨rfl, _⟩ := q3
        obtain ⟨rfl, _⟩ := p3
        have hc0 := q0 (by decide); have hd0 := p0 (by decide)
        simp only [Nat.mul_one, List.getElem?_cons_zero] at hc0 hd0
        have Hx := Lib.hid hx; have Hy := Lib.hid hy
        clear q0 q1 q2 p0 p1 p2 hx hy E1 E2
        have hlt' : (k : Int) < (n1 : Int) := by omega
        by_cases h0 : x = y
        · have g0 : (x == y) = true := by rw [h0]; simp
          have H0 := Lib.hid h0
          clear h0
          go_wp2
          go_quiet (fail)
          go_wp2
          go_roundw
          case measure => simp [intOf]; omega
          case rel =>
          refine ⟨k + 1, _, by omega, by go_num, rfl, fun i hi => ?_⟩
          by_cases hik : i = k
          · rw [hik, Hx.out, Hy.out]
            have f0 := H0.out
            rw [f0]
          · exact HEQ.out i (by omega)
        · have g0 : (x == y) = false := by rw [beq_eq_false_iff_ne]; exact h0
          have H0 := Lib.hid h0
          clear h0
          go_wp2
          go_quiet (fail)
          go_wp2
          go_ret
          exact ⟨ret_f (rows_ne' k Hx.out Hy.out (fun e => H0.out (by rw [e]))), _, World.drewN_drewN ..⟩
      · obtain rfl : k = n1 := by omega
        go_wp2
        go_ret
        exact ⟨ret_t (rows_eq' L1.out L2.out HEQ.out), _, rfl⟩
  · have hn' : ((n1 : Int) == n2) = false := by rw [beq_eq_false_iff_ne]; omega
    have L1 := Lib.hid l1; have L2 := Lib.hid l2; have H := Lib.hid hn
    clear l1 l2 hn e1 e2
    go_enter Try.func40, Try.ntmps40
    go_wp2
    go_ret
    exact ⟨ret_f (fun e => H.out (by rw [← L1.out, ← L2.out, e])), 0, rfl⟩
set_option maxHeartbeats 2000000 in
theorem shifts_any (v1 v2 : Value) (r1 r2 : List ShiftD) (w : World) (h1 : Row w 3 rShift v1 r1) (h2 : Row w 3 rShift v2 r2) :
    Calls Try.prog 49 #[v1, v2] w fun e w' => e = .returned (.bool (dec (r1 = r2))) ∧ ∃ m, w' = w.drewN m := by
  obtain ⟨o1, n1, c1, rfl, l1, m1, k1, e1⟩ := h1.view
  obtain ⟨o2, n2, c2, rfl, l2, m2, k2, e2⟩ := h2.view
  clear h1 h2
  by_cases hn : n1 = n2
  · subst hn
    have L1 := Lib.hid l1; have L2 := Lib.hid l2; have E1 := Lib.hid e1; have E2 := Lib.hid e2
    clear l1 l2 e1 e2
    have hM : n1 < 9223372036854775808 := by (unfold maxLen at k1; omega)
    go_enter Try.func49, Try.ntmps49
    go_wp2_with fail
    go_loopw [13] (fun a wr => ∃ (k : Nat) (q : Nat), k ≤ n1 ∧ a = .int .i64 k ∧ wr = w.drewN q ∧ ∀ i, i < k → r1[i]? = r2[i]?) (fun a _ => n1 - (intOf a).toNat)
    case atStart => exact ⟨0, 0, Nat.zero_le _, rfl, rfl, fun i hi => absurd hi (by omega)⟩
    case round =>
      obtain ⟨k, q, hk, rfl, rfl, heq⟩ := hrel
      have HEQ := Lib.hid heq
      clear heq
      by_cases hlt : k < n1
      · obtain ⟨x, a1, cs1, hx, rfl, q1, q3, q0, q2⟩ := E1.out k hlt
        obtain ⟨y, a2, cs2, hy, rfl, p1, p3, p0, p2⟩ := E2.out k hlt
        obtain ⟨rfl, _⟩ := q3
        obtain ⟨rfl, _⟩ := p3
        have hc0 := q0 (by decide); have hd0 := p0 (by decide)
        have hc1 := q2 1 (by decide) (by decide); have hd1 := p2 1 (by decide) (by decide)
        have hc2 := q2 2 (by decide) (by decide); have hd2 := p2 2 (by decide) (by decide)
        simp only [List.getElem?_cons_zero, List.getElem?_cons_succ] at hc0 hd0 hc1 hd1 hc2 hd2
        have Hx := Lib.hid hx; have Hy := Lib.hid hy
        clear q0 q1 q2 p0 p1 p2 hx hy E1 E2
        have hlt' : (k : Int) < (n1 : Int) := by omega
        by_cases h0 : x.days = y.days
        · have g0 : (x.days == y.days) = true := by rw [h0]; simp
          have H0 := Lib.hid h0
          clear h0
          by_cases h1 : x.from_ = y.from_
          · have g1 : (x.from_ == y.from_) = true := by rw [h1]; simp
            have H1 := Lib.hid h1
            clear h1
            by_cases h2 : x.to_ = y.to_
            · have g2 : (x.to_ == y.to_) = true := by rw [h2]; simp
              have H2 := Lib.hid h2
              clear h2
              go_wp2
              go_quiet (fail)
              go_wp2
              go_roundw
              case measure => simp [intOf]; omega
              case rel =>
              refine ⟨k + 1, _, by omega, by go_num, rfl, fun i hi => ?_⟩
              by_cases hik : i = k
              · rw [hik, Hx.out, Hy.out]
                have f0 := H0.out
                have f1 := H1.out
                have f2 := H2.out
                cases x; cases y; simp_all
              · exact HEQ.out i (by omega)
            · have g2 : (x.to_ == y.to_) = false := by rw [beq_eq_false_iff_ne]; exact h2
              have H2 := Lib.hid h2
              clear h2
              go_wp2
              go_quiet (fail)
              go_wp2
              go_ret
              exact ⟨ret_f (rows_ne' k Hx.out Hy.out (fun e => H2.out (by rw [e]))), _, World.drewN_drewN ..⟩
          · have g1 : (x.from_ == y.from_) = false := by rw [beq_eq_false_iff_ne]; exact h1
            have H1 := Lib.hid h1
            clear h1
            go_wp2
            go_quiet (fail)
            go_wp2
            go_ret
            exact ⟨ret_f (rows_ne' k Hx.out Hy.out (fun e => H1.out (by rw [e]))), _, World.drewN_drewN ..⟩
        · have g0 : (x.days == y.days) = false := by rw [beq_eq_false_iff_ne]; exact h0
          have H0 := Lib.hid h0
          clear h0
          go_wp2
          go_quiet (fail)
          go_wp2
          go_ret
          exact ⟨ret_f (rows_ne' k Hx.out Hy.out (fun e => H0.out (by rw [e]))), _, World.drewN_drewN ..⟩
      · obtain rfl : k = n1 := by omega
        go_wp2
        go_ret
        exact ⟨ret_t (rows_eq' L1.out L2.out HEQ.out), _, rfl⟩
  · have hn' : ((n1 : Int) == n2) = false := by rw [beq_eq_false_iff_ne]; omega
    have L1 := Lib.hid l1; have L2 := Lib.hid l2; have H := Lib.hid hn
    clear l1 l2 hn e1 e2
    go_enter Try.func49, Try.ntmps49
    go_wp2
    go_ret
    exact ⟨ret_f (fun e => H.out (by rw [← L1.out, ← L2.out, e])), 0, rfl⟩
end Go.Proofs.Ytcleicjgeflbnaa
