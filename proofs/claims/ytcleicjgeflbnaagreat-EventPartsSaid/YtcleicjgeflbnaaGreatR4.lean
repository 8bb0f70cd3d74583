/- Rows of numbers that rise: rule.row and what it calls. Condition: the row has at most a thousand numbers. rule.row: numbers that rise, from 1 on, or below 0, up to a most. Condition: at most a thousand numbers. Days of a rule that rise: rises at DayN. Condition: at most a thousand days. rule.ends and rule.daysMay. Condition: at most a thousand days and months. -/
import Derived.Test.YtcleicjgeflbnaaGreatG2
import Derived.Test.YtcleicjgeflbnaaGreatProg
import Derived.Laws.BytesArg
import Derived.KernelRfl
import Derived.IntWalk
import Derived.OwnWalk
import Derived.Deep.QuietTactic
import Derived.BigQuiet
import Derived.Lib.Hide
import Derived.StillTailTactics
import Derived.Deep.RegionHeld3
import Derived.Deep.DrawnRows
namespace Go.Proofs.YtcleicjgeflbnaaGreat
open Go.RowKit Go.ChangeShapes Go.WideShapes Go.Deep
set_option linter.all false

open Classical in
/-- What a test answers. -/
noncomputable def dec (p : Prop) : Bool := decide p
theorem dec_t {p : Prop} (h : p) : dec p = true := by unfold dec; simp [h]
theorem dec_f {p : Prop} (h : ¬ p) : dec p = false := by unfold dec; simp [h]
theorem dec_iff {p : Prop} : dec p = true ↔ p := by unfold dec; simp
theorem ret_t {p : Prop} (h : p) : Ending.returned (.bool true) = Ending.returned (.bool (dec p)) := by rw [dec_t h]
theorem ret_f {p : Prop} (h : ¬ p) : Ending.returned (.bool false) = Ending.returned (.bool (dec p)) := by rw [dec_f h]
theorem c_t {P : Program} {f : FuncId} {args : Array Value} {w : World} {p : Prop} {Q : World → Prop} (h : Calls P f args w fun e w' => e = .returned (.bool (dec p)) ∧ Q w') (hp : p) : Calls P f args w fun e w' => e = .returned (.bool true) ∧ Q w' := by rw [dec_t hp] at h; exact h
theorem c_f {P : Program} {f : FuncId} {args : Array Value} {w : World} {p : Prop} {Q : World → Prop} (h : Calls P f args w fun e w' => e = .returned (.bool (dec p)) ∧ Q w') (hp : ¬ p) : Calls P f args w fun e w' => e = .returned (.bool false) ∧ Q w' := by rw [dec_f hp] at h; exact h
theorem below_call {w0 w w1 w2 : World} (h1 : Below w0.heap.size w w1) (h2 : Below w1.heap.size w1 w2) (hB : w0.heap.size ≤ w.heap.size := by omega) : Below w0.heap.size w w2 := by
  have := h1.size
  exact h1.trans (h2.mono (by omega))

theorem lessI (a b : Int) (w : World) : Calls Tryz.prog 70 #[.int .i64 a, .int .i64 b] w fun e w' => e = .returned (.bool (decide (a < b))) ∧ w' = w := by
  go_enter Tryz.func70, Tryz.ntmps70
  go_wp2_with fail
  go_ret
  exact ⟨rfl, rfl⟩

def risesTo (xs : List Int) (k : Nat) : Prop := ∀ (i : Nat) a b, i + 1 < k → xs[i]? = some a → xs[i + 1]? = some b → a < b
def rises (xs : List Int) : Prop := ∀ (i : Nat) a b, xs[i]? = some a → xs[i + 1]? = some b → a < b

theorem meas_up (n j : Nat) (h : j + 1 < n) : n + 1 - ((j : Int) + 1 + 1).toNat < n + 1 - (((j + 1 : Nat) : Int)).toNat := by omega

set_option maxHeartbeats 4000000 in
set_option maxRecDepth 100000 in
theorem risesI (o : Option Addr) (n c : Nat) (xs : List Int) (w : World) (h : Row w 1 (rI .i64) (.slice o n c) xs) (hn : n ≤ 10000) :
    Calls Tryz.prog 69 #[.slice o n c, .func (.func 70) #[] #[]] w fun e w' => e = .returned (.bool (dec (rises xs))) ∧ Below w.heap.size w w' := by
  have S := Lib.hid h
  have L := Lib.hid h.len
  have C := Lib.hid (fun a b W => lessI a b W)
  clear h
  go_enter Tryz.func69, Tryz.ntmps69
  go_wp2_with fail
  go_loopw [5] (fun b wr => ∃ k : Nat, 1 ≤ k ∧ b = .int .i64 (k : Nat) ∧ Hid (Below w.heap.size w wr) ∧ Hid (risesTo xs k)) (fun b _ => n + 1 - (intOf b).toNat)
  case atStart => exact ⟨1, Nat.le_refl _, rfl, Below.refl _ _, fun i a b h => absurd h (by omega)⟩
  case round =>
    obtain ⟨k, hk1, rfl, HB, I⟩ := hrel
    obtain ⟨wl, rfl⟩ : ∃ x, x = wr := ⟨_, rfl⟩
    by_cases hlt : k < n
    · have hlt' : (k : Int) < (n : Int) := by omega
      obtain ⟨j, rfl⟩ : ∃ j, k = j + 1 := ⟨k - 1, by omega⟩
      obtain ⟨x, a1, cs1, hx, rfl, q1, ⟨rfl, _⟩, q0, _⟩ := S.out.elem HB.out j (by omega)
      have e0 := q0 (by decide)
      obtain ⟨y, a2, cs2, hy, ha, q3, ⟨rfl, _⟩, q4, _⟩ := S.out.elem HB.out (j + 1) (by omega)
      cases ha
      have e1 := q4 (by decide)
      simp only [List.getElem?_cons_zero, Nat.mul_one] at e0 e1
      have e2 : wl.cell? ⟨a1.block, a1.off + (j + 1), none⟩ = some (.int .i64 y) := by
        have h := e1
        unfold Addr.add at h
        rw [if_neg (by omega)] at h
        exact h
      have HX := Lib.hid (And.intro hx hy)
      have hw : wrap64 ((j : Int) + 1 - 1) = (j : Int) := by unfold wrap64; omega
      have hw2 : wrap64 (((j + 1 : Nat) : Int) - 1) = (j : Int) := by unfold wrap64; omega
      have hw3 : wrap64 (j : Int) = (j : Int) := by unfold wrap64; omega
      have hw4 : (IntKind.i64).wrap (j : Int) = (j : Int) := by rw [IntKind.wrap_i64]; omega
      have hjp : (0 : Int) ≤ (j : Int) + 1 := by omega
      have hjn : (j : Int) + 1 < (n : Int) := by omega
      have htn : ((j : Int) + 1).toNat = j + 1 := by omega
      have hj0 : (0 : Int) ≤ (j : Int) := by omega
      have hj1 : (j : Int) < (n : Int) := by omega
      clear q0 q1 q3 q4 hx hy
      by_cases hxy : x < y
      · have d1 := decide_eq_true hxy
        have I2 := Lib.hid (show risesTo xs (j + 1 + 1) from fun i a b hi ha hb => by
          by_cases e : i = j
          · subst e
            rw [HX.out.1] at ha; rw [HX.out.2] at hb
            cases ha; cases hb
            exact hxy
          · exact I.out i a b (by omega) ha hb)
        clear hxy
        go_wp2_with fail
        go_still_tail 10, (by kernel_rfl)
        go_wp2_with fail
        (with_reducible refine (C.out _ _ _).mono ?_)
        rintro e w1 ⟨rfl, rfl⟩
        go_wp2_with fail
        go_roundw
        case measure => simp [intOf]; omega
        case rel => exact ⟨j + 1 + 1, by omega, by go_num, HB.out.drew, I2.out⟩
      · have d1 := decide_eq_false hxy
        have hno := Lib.hid (show ¬ rises xs from fun h => hxy (h j x y HX.out.1 HX.out.2))
        clear hxy
        go_wp2_with fail
        go_still_tail 10, (by kernel_rfl)
        go_wp2_with fail
        (with_reducible refine (C.out _ _ _).mono ?_)
        rintro e w1 ⟨rfl, rfl⟩
        go_wp2_with fail
        go_ret
        exact ⟨ret_f hno.out, HB.out.drew⟩
    · go_wp2_with fail
      go_ret
      exact ⟨ret_t fun i a b ha hb => I.out i a b (by have := (List.getElem?_eq_some_iff.1 hb).1; have := L.out; omega) ha hb, HB.out⟩
end Go.Proofs.YtcleicjgeflbnaaGreat
namespace Go.Proofs.YtcleicjgeflbnaaGreat
open Go.RowKit Go.ChangeShapes Go.WideShapes Go.Deep
set_option linter.all false

def rowOne (most : Nat) (below : Bool) (x : Int) : Prop := x ≠ 0 ∧ x ≤ (most : Int) ∧ -(most : Int) ≤ x ∧ (0 ≤ x ∨ below = true)
def rowMay (most : Nat) (below : Bool) (xs : List Int) : Prop := (∀ x ∈ xs, rowOne most below x) ∧ rises xs

set_option maxHeartbeats 4000000 in
set_option maxRecDepth 100000 in
theorem row_any (o : Option Addr) (n c : Nat) (xs : List Int) (most : Nat) (below : Bool) (w : World) (h : Row w 1 (rI .i64) (.slice o n c) xs) (hn : n ≤ 10000) (hm : most ≤ 10000) :
    Calls Tryz.prog 45 #[.slice o n c, .int .i64 (most : Nat), .bool below] w fun e w' => e = .returned (.bool (dec (rowMay most below xs))) ∧ Below w.heap.size w w' := by
  have S := Lib.hid h
  have L := Lib.hid h.len
  have C := Lib.hid (fun W hb => risesI o n c xs W (h.later' (w' := W) hb) hn)
  clear h
  have hneg : wrap64 (-(most : Int)) = -(most : Int) := by unfold wrap64; omega
  have hneg2 : (IntKind.i64).wrap (-(most : Int)) = -(most : Int) := by rw [IntKind.wrap_i64]; omega
  go_enter Tryz.func45, Tryz.ntmps45
  go_wp2_with fail
  go_loopw [11] (fun b wr => ∃ k : Nat, k ≤ n ∧ b = .int .i64 (k : Nat) ∧ wr = w ∧ Hid (∀ (i : Nat) x, i < k → xs[i]? = some x → rowOne most below x)) (fun b _ => n - (intOf b).toNat)
  case atStart => exact ⟨0, Nat.zero_le _, rfl, rfl, fun i x h => absurd h (Nat.not_lt_zero _)⟩
  case round =>
    obtain ⟨k, hk, rfl, rfl, I⟩ := hrel
    by_cases hlt : k < n
    · have hlt' : (k : Int) < (n : Int) := by omega
      obtain ⟨x, a1, cs1, hx, rfl, q1, ⟨rfl, _⟩, q0, _⟩ := S.out.elem (Below.refl _ _) k hlt
      have e0 := q0 (by decide)
      simp only [List.getElem?_cons_zero, Nat.mul_one] at e0
      have HX := Lib.hid hx
      clear q0 q1 hx
      by_cases h1 : x = 0
      · have b1 : (x == 0) = true := by simpa using h1
        have hno := Lib.hid (show ¬ rowMay most below xs from fun h => (h.1 x (List.mem_of_getElem? HX.out)).1 h1)
        clear h1
        go_wp2_with fail
        go_ret
        exact ⟨ret_f hno.out, Below.refl _ _⟩
      · have b1 : (x == 0) = false := by simpa using h1
        by_cases h2 : (most : Int) < x
        · have d2 := decide_eq_true h2
          have hno := Lib.hid (show ¬ rowMay most below xs from fun h => by have := (h.1 x (List.mem_of_getElem? HX.out)).2.1; omega)
          clear h1 h2
          go_wp2_with fail
          go_ret
          exact ⟨ret_f hno.out, Below.refl _ _⟩
        · have d2 := decide_eq_false h2
          by_cases h3 : x < -(most : Int)
          · have d3 := decide_eq_true h3
            have hno := Lib.hid (show ¬ rowMay most below xs from fun h => by have := (h.1 x (List.mem_of_getElem? HX.out)).2.2.1; omega)
            clear h1 h2 h3
            go_wp2_with fail
            go_ret
            exact ⟨ret_f hno.out, Below.refl _ _⟩
          · have d3 := decide_eq_false h3
            by_cases h4 : x < 0
            · have d4 := decide_eq_true h4
              cases below with
              | false =>
                have hno := Lib.hid (show ¬ rowMay most false xs from fun h => by
                  have := (h.1 x (List.mem_of_getElem? HX.out)).2.2.2
                  rcases this with h | h
                  · omega
                  · cases h)
                clear h1 h2 h3 h4
                go_wp2_with fail
                go_ret
                exact ⟨ret_f hno.out, Below.refl _ _⟩
              | true =>
                have I2 := Lib.hid (show ∀ (i : Nat) z, i < k + 1 → xs[i]? = some z → rowOne most true z from fun i z hi hz => by
                  by_cases e : i = k
                  · subst e
                    rw [HX.out] at hz; cases hz
                    exact ⟨h1, by omega, by omega, .inr rfl⟩
                  · exact I.out i z (by omega) hz)
                clear h1 h2 h3 h4
                go_wp2_with fail
                go_roundw
                case measure => simp [intOf]; omega
                case rel => exact ⟨k + 1, by omega, by go_num, by trivial, I2.out⟩
            · have d4 := decide_eq_false h4
              have I2 := Lib.hid (show ∀ (i : Nat) z, i < k + 1 → xs[i]? = some z → rowOne most below z from fun i z hi hz => by
                by_cases e : i = k
                · subst e
                  rw [HX.out] at hz; cases hz
                  exact ⟨h1, by omega, by omega, .inl (by omega)⟩
                · exact I.out i z (by omega) hz)
              clear h1 h2 h3 h4
              go_wp2_with fail
              go_roundw
              case measure => simp [intOf]; omega
              case rel => exact ⟨k + 1, by omega, by go_num, by trivial, I2.out⟩
    · obtain rfl : n = k := by omega
      have hall : ∀ x ∈ xs, rowOne most below x := fun x hx => by
        obtain ⟨i, hi, rfl⟩ := List.getElem_of_mem hx
        exact I.out i _ (by have := L.out; omega) (List.getElem?_eq_getElem hi)
      have HALL := Lib.hid hall
      clear hall
      go_wp2_with fail
      (with_reducible refine (C.out _ (Below.refl _ _)).mono ?_)
      rintro e w1 ⟨rfl, hb1⟩
      have HB := Lib.hid hb1
      clear hb1
      go_wp2_with fail
      go_ret
      refine ⟨?_, HB.out⟩
      by_cases hr : rises xs
      · rw [dec_t hr]; exact ret_t ⟨HALL.out, hr⟩
      · rw [dec_f hr]; exact ret_f fun h => hr h.2

def endsMay (r : RuleD) : Prop := 0 ≤ r.count ∧ r.count ≤ 5000 ∧ (r.until_ = -1 ∨ (0 ≤ r.until_ ∧ r.until_ < 158310720 ∧ r.count = 0))
end Go.Proofs.YtcleicjgeflbnaaGreat
namespace Go.Proofs.YtcleicjgeflbnaaGreat
open Go.RowKit Go.ChangeShapes Go.WideShapes Go.Deep
set_option linter.all false

def dlt (a b : DayND) : Prop := a.n < b.n ∨ a.n = b.n ∧ a.day < b.day
def risesDay (xs : List DayND) : Prop := ∀ (i : Nat) a b, xs[i]? = some a → xs[i + 1]? = some b → dlt a b
def risesDayTo (xs : List DayND) (k : Nat) : Prop := ∀ (i : Nat) a b, i + 1 < k → xs[i]? = some a → xs[i + 1]? = some b → dlt a b

set_option maxHeartbeats 2000000 in
theorem lessD (a b : DayND) (w : World) : Calls Tryz.prog 72 #[.agg #[.int .i64 a.n, .int .i64 a.day], .agg #[.int .i64 b.n, .int .i64 b.day]] w fun e w' => e = .returned (.bool (dec (dlt a b))) ∧ Below w.heap.size w w' := by
  have HB := Lib.hid (show Below w.heap.size w ((w.alloc (.cells #[.int .i64 a.n, .int .i64 a.day] 73)).alloc (.cells #[.int .i64 b.n, .int .i64 b.day] 73)) from ((Below.refl _ _).alloc (Nat.le_refl _) _).alloc (by simp) _)
  by_cases h1 : a.n < b.n
  · have d1 := decide_eq_true h1
    have hy := Lib.hid (show dlt a b from .inl h1)
    clear h1
    go_enter Tryz.func72, Tryz.ntmps72
    go_wp2_with fail
    go_ret
    exact ⟨ret_t hy.out, HB.out⟩
  · have d1 := decide_eq_false h1
    by_cases h2 : a.n = b.n
    · have b2 : (a.n == b.n) = true := by simpa using h2
      by_cases h3 : a.day < b.day
      · have d3 := decide_eq_true h3
        have hy := Lib.hid (show dlt a b from .inr ⟨h2, h3⟩)
        clear h1 h2 h3
        go_enter Tryz.func72, Tryz.ntmps72
        go_wp2_with fail
        go_ret
        exact ⟨ret_t hy.out, HB.out⟩
      · have d3 := decide_eq_false h3
        have hy := Lib.hid (show ¬ dlt a b from fun h => h.elim h1 fun h => h3 h.2)
        clear h1 h2 h3
        go_enter Tryz.func72, Tryz.ntmps72
        go_wp2_with fail
        go_ret
        exact ⟨ret_f hy.out, HB.out⟩
    · have b2 : (a.n == b.n) = false := by simpa using h2
      have hy := Lib.hid (show ¬ dlt a b from fun h => h.elim h1 fun h => h2 h.1)
      clear h1 h2
      go_enter Tryz.func72, Tryz.ntmps72
      go_wp2_with fail
      go_ret
      exact ⟨ret_f hy.out, HB.out⟩

set_option maxHeartbeats 4000000 in
set_option maxRecDepth 100000 in
theorem risesD (o : Option Addr) (n c : Nat) (xs : List DayND) (w : World) (h : Row w 2 rDayN (.slice o n c) xs) (hn : n ≤ 10000) :
    Calls Tryz.prog 71 #[.slice o n c, .func (.func 72) #[] #[]] w fun e w' => e = .returned (.bool (dec (risesDay xs))) ∧ Below w.heap.size w w' := by
  have S := Lib.hid h
  have L := Lib.hid h.len
  clear h
  go_enter Tryz.func71, Tryz.ntmps71
  go_wp2_with fail
  go_loopw [5] (fun b wr => ∃ k : Nat, 1 ≤ k ∧ b = .int .i64 (k : Nat) ∧ Hid (Below w.heap.size w wr) ∧ Hid (risesDayTo xs k)) (fun b _ => n + 1 - (intOf b).toNat)
  case atStart => exact ⟨1, Nat.le_refl _, rfl, Below.refl _ _, fun i a b h => absurd h (by omega)⟩
  case round =>
    obtain ⟨k, hk1, rfl, HB, I⟩ := hrel
    obtain ⟨wl, rfl⟩ : ∃ x, x = wr := ⟨_, rfl⟩
    by_cases hlt : k < n
    · have hlt' : (k : Int) < (n : Int) := by omega
      obtain ⟨j, rfl⟩ : ∃ j, k = j + 1 := ⟨k - 1, by omega⟩
      obtain ⟨x, a1, cs1, hx, rfl, q1, ⟨rfl, _, _⟩, q0, q0'⟩ := S.out.elem HB.out j (by omega)
      have e0 := q0 (by decide)
      have e1 := q0' 1 (by decide) (by decide)
      obtain ⟨y, a2, cs2, hy, ha, q3, ⟨rfl, _, _⟩, q4, q4'⟩ := S.out.elem HB.out (j + 1) (by omega)
      cases ha
      have f0 := q4 (by decide)
      have f1 := q4' 1 (by decide) (by decide)
      simp only [List.getElem?_cons_zero, List.getElem?_cons_succ] at e0 e1 f0 f1
      have HX := Lib.hid (And.intro hx hy)
      have C := Lib.hid (fun W => lessD x y W)
      have hw : wrap64 ((j : Int) + 1 - 1) = (j : Int) := by unfold wrap64; omega
      have hw4 : (IntKind.i64).wrap (j : Int) = (j : Int) := by rw [IntKind.wrap_i64]; omega
      have hjp : (0 : Int) ≤ (j : Int) + 1 := by omega
      have hjn : (j : Int) + 1 < (n : Int) := by omega
      have htn : ((j : Int) + 1).toNat = j + 1 := by omega
      have hj0 : (0 : Int) ≤ (j : Int) := by omega
      have hj1 : (j : Int) < (n : Int) := by omega
      clear q0 q1 q3 q4 q0' q4' hx hy
      by_cases hxy : dlt x y
      · rw [dec_t hxy] at C
        have I2 := Lib.hid (show risesDayTo xs (j + 1 + 1) from fun i a b hi ha hb => by
          by_cases e : i = j
          · subst e
            rw [HX.out.1] at ha; rw [HX.out.2] at hb
            cases ha; cases hb
            exact hxy
          · exact I.out i a b (by omega) ha hb)
        clear hxy
        go_wp2_with fail
        go_still_tail 10, (by kernel_rfl)
        go_wp2_with fail
        (with_reducible refine (C.out _).mono ?_)
        rintro e w1 ⟨rfl, hb1⟩
        have HB2 := Lib.hid (below_call HB.out.drew hb1)
        clear hb1 e0 e1 f0 f1
        go_wp2_with fail
        go_roundw
        case measure => simp [intOf]; omega
        case rel => exact ⟨j + 1 + 1, by omega, by go_num, HB2.out, I2.out⟩
      · rw [dec_f hxy] at C
        have hno := Lib.hid (show ¬ risesDay xs from fun h => hxy (h j x y HX.out.1 HX.out.2))
        clear hxy
        go_wp2_with fail
        go_still_tail 10, (by kernel_rfl)
        go_wp2_with fail
        (with_reducible refine (C.out _).mono ?_)
        rintro e w1 ⟨rfl, hb1⟩
        have HB2 := Lib.hid (below_call HB.out.drew hb1)
        clear hb1 e0 e1 f0 f1
        go_wp2_with fail
        go_ret
        exact ⟨ret_f hno.out, HB2.out⟩
    · go_wp2_with fail
      go_ret
      exact ⟨ret_t fun i a b ha hb => I.out i a b (by have := (List.getElem?_eq_some_iff.1 hb).1; have := L.out; omega) ha hb, HB.out⟩
end Go.Proofs.YtcleicjgeflbnaaGreat
namespace Go.Proofs.YtcleicjgeflbnaaGreat
open Go.RowKit Go.ChangeShapes Go.WideShapes Go.Deep
set_option linter.all false

set_option maxHeartbeats 4000000 in
theorem ends_any (cs : List Value) (r : RuleD) (w : World) (h : rRule w cs r) :
    Calls Tryz.prog 44 #[.agg cs.toArray] w fun e w' => e = .returned (.bool (dec (endsMay r))) ∧ Below w.heap.size w w' := by
  obtain ⟨m, d, y, p, rfl, -, -, -, -, -, ⟨om, nm, cm, rfl, -⟩, ⟨od, nd, cd, rfl, -⟩, ⟨oy, ny, cy, rfl, -⟩, ⟨op, np, cp, rfl, -⟩⟩ := h
  have HB := Lib.hid (show Below w.heap.size w (w.alloc (.cells #[.int .i64 r.freq, .int .i64 r.interval, .int .i64 r.count, .int .i64 r.until_, .slice om nm cm, .slice od nd cd, .slice oy ny cy, .slice op np cp, .int .i64 r.start] 28)) from (Below.refl _ _).alloc (Nat.le_refl _) _)
  by_cases h1 : r.count < 0
  · have d1 := decide_eq_true h1
    have hno := Lib.hid (show ¬ endsMay r from fun h => by have := h.1; omega)
    clear h1
    go_enter Tryz.func44, Tryz.ntmps44
    go_wp2_with fail
    go_ret
    exact ⟨ret_f hno.out, HB.out⟩
  · have d1 := decide_eq_false h1
    by_cases h2 : 5000 < r.count
    · have d2 := decide_eq_true h2
      have hno := Lib.hid (show ¬ endsMay r from fun h => by have := h.2.1; omega)
      clear h1 h2
      go_enter Tryz.func44, Tryz.ntmps44
      go_wp2_with fail
      go_ret
      exact ⟨ret_f hno.out, HB.out⟩
    · have d2 := decide_eq_false h2
      by_cases h3 : r.until_ = -1
      · have b3 : (r.until_ == -1) = true := by simpa using h3
        have hyes := Lib.hid (show endsMay r from ⟨by omega, by omega, .inl h3⟩)
        clear h1 h2 h3
        go_enter Tryz.func44, Tryz.ntmps44
        go_wp2_with fail
        go_ret
        exact ⟨ret_t hyes.out, HB.out⟩
      · have b3 : (r.until_ == -1) = false := by simpa using h3
        by_cases h4 : 0 ≤ r.until_
        · have d4 := decide_eq_true h4
          by_cases h5 : r.until_ < 158310720
          · have d5 := decide_eq_true h5
            by_cases h6 : r.count = 0
            · have b6 : (r.count == 0) = true := by simpa using h6
              have hyes := Lib.hid (show endsMay r from ⟨by omega, by omega, .inr ⟨h4, h5, h6⟩⟩)
              clear h1 h2 h3 h4 h5 h6
              go_enter Tryz.func44, Tryz.ntmps44
              go_wp2_with fail
              go_ret
              exact ⟨ret_t hyes.out, HB.out⟩
            · have b6 : (r.count == 0) = false := by simpa using h6
              have hno := Lib.hid (show ¬ endsMay r from fun h => h.2.2.elim h3 fun h => h6 h.2.2)
              clear h1 h2 h3 h4 h5 h6
              go_enter Tryz.func44, Tryz.ntmps44
              go_wp2_with fail
              go_ret
              exact ⟨ret_f hno.out, HB.out⟩
          · have d5 := decide_eq_false h5
            have hno := Lib.hid (show ¬ endsMay r from fun h => h.2.2.elim h3 fun h => h5 h.2.1)
            clear h1 h2 h3 h4 h5
            go_enter Tryz.func44, Tryz.ntmps44
            go_wp2_with fail
            go_ret
            exact ⟨ret_f hno.out, HB.out⟩
        · have d4 := decide_eq_false h4
          have hno := Lib.hid (show ¬ endsMay r from fun h => h.2.2.elim h3 fun h => h4 h.1)
          clear h1 h2 h3 h4
          go_enter Tryz.func44, Tryz.ntmps44
          go_wp2_with fail
          go_ret
          exact ⟨ret_f hno.out, HB.out⟩

/-- May days stand with a number? -/
def nthMay (r : RuleD) : Prop := r.freq = 3 ∨ r.freq = 4 ∧ 0 < r.byMonth.length
def dayOne (r : RuleD) (d : DayND) : Prop := 0 ≤ d.day ∧ d.day ≤ 6 ∧ -5 ≤ d.n ∧ d.n ≤ 5 ∧ (d.n = 0 ∨ nthMay r)
def daysMay (r : RuleD) : Prop := (∀ d ∈ r.byDay, dayOne r d) ∧ risesDay r.byDay
end Go.Proofs.YtcleicjgeflbnaaGreat
