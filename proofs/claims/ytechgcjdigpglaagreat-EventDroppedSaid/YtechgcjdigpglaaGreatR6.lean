/- Rows of numbers that rise: rule.row and what it calls. Condition: the row has at most a thousand numbers. rule.row: numbers that rise, from 1 on, or below 0, up to a most. Condition: at most a thousand numbers. Days of a rule that rise: rises at DayN. Condition: at most a thousand days. rule.ends and rule.daysMay. Condition: at most a thousand days and months. rule.daysMay. Condition: at most a thousand days and months. rule.May: may a rule be. Condition: its rows have at most ten thousand places. -/
import Derived.Test.YtechgcjdigpglaaGreatG2
import Derived.Test.YtechgcjdigpglaaGreatProg
import Derived.Laws.BytesArg
import Derived.KernelRfl
import Derived.IntWalk
import Derived.OwnWalk
import Derived.Deep.QuietTactic
import Derived.BigQuiet
import Derived.Lib.Hide
import Derived.StillTailTactics
import Derived.Deep.RegionHeld3
import Derived.Deep.DrawnRows
import Derived.BigGuard
import Derived.BigCall
namespace Go.Proofs.YtechgcjdigpglaaGreat
open Go.RowKit Go.ChangeShapes Go.WideShapes Go.Deep
set_option linter.all false

open Classical in
/-- What a test answers. -/
noncomputable def dec (p : Prop) : Bool := decide p
theorem dec_t {p : Prop} (h : p) : dec p = true := by unfold dec; simp [h]
theorem dec_f {p : Prop} (h : ¬ p) : dec p = false := by unfold dec; simp [h]
theorem dec_iff {p : Prop} : dec p = true ↔ p := by unfold dec; simp
theorem ret_t {p : Prop} (h : p) : Ending.returned (.bool true) = Ending.returned (.bool (dec p)) := by rw [dec_t h]
theorem ret_f {p : Prop} (h : ¬ p) : Ending.returned (.bool false) = Ending.returned (.bool (dec p)) := by rw [dec_f h]
theorem c_t {P : Program} {f : FuncId} {args : Array Value} {w : World} {p : Prop} {Q : World → Prop} (h : Calls P f args w fun e w' => e = .returned (.bool (dec p)) ∧ Q w') (hp : p) : Calls P f args w fun e w' => e = .returned (.bool true) ∧ Q w' := by rw [dec_t hp] at h; exact h
theorem c_f {P : Program} {f : FuncId} {args : Array Value} {w : World} {p : Prop} {Q : World → Prop} (h : Calls P f args w fun e w' => e = .returned (.bool (dec p)) ∧ Q w') (hp : ¬ p) : Calls P f args w fun e w' => e = .returned (.bool false) ∧ Q w' := by rw [dec_f hp] at h; exact h
theorem below_call {w0 w w1 w2 : World} (h1 : Below w0.heap.size w w1) (h2 : Below w1.heap.size w1 w2) (hB : w0.heap.size ≤ w.heap.size := by omega) : Below w0.heap.size w w2 := by
  have := h1.size
  exact h1.trans (h2.mono (by omega))

theorem lessI (a b : Int) (w : World) : Calls Tryz.prog 125 #[.int .i64 a, .int .i64 b] w fun e w' => e = .returned (.bool (decide (a < b))) ∧ w' = w := by
  go_enter Tryz.func125, Tryz.ntmps125
  go_wp2_with fail
  go_ret
  exact ⟨rfl, rfl⟩

def risesTo (xs : List Int) (k : Nat) : Prop := ∀ (i : Nat) a b, i + 1 < k → xs[i]? = some a → xs[i + 1]? = some b → a < b
def rises (xs : List Int) : Prop := ∀ (i : Nat) a b, xs[i]? = some a → xs[i + 1]? = some b → a < b

theorem meas_up (n j : Nat) (h : j + 1 < n) : n + 1 - ((j : Int) + 1 + 1).toNat < n + 1 - (((j + 1 : Nat) : Int)).toNat := by omega

set_option maxHeartbeats 4000000 in
set_option maxRecDepth 100000 in
theorem risesI (o : Option Addr) (n c : Nat) (xs : List Int) (w : World) (h : Row w 1 (rI .i64) (.slice o n c) xs) (hn : n ≤ 10000) :
    Calls Tryz.prog 124 #[.slice o n c, .func (.func 125) #[] #[]] w fun e w' => e = .returned (.bool (dec (rises xs))) ∧ Below w.heap.size w w' := by
  have S := Lib.hid h
  have L := Lib.hid h.len
  have C := Lib.hid (fun a b W => lessI a b W)
  clear h
  go_enter Tryz.func124, Tryz.ntmps124
  go_wp2_with fail
  go_loopw [5] (fun b wr => ∃ k : Nat, 1 ≤ k ∧ b = .int .i64 (k : Nat) ∧ Hid (Below w.heap.size w wr) ∧ Hid (risesTo xs k)) (fun b _ => n + 1 - (intOf b).toNat)
  case atStart => exact ⟨1, Nat.le_refl _, rfl, Below.refl _ _, fun i a b h => absurd h (by omega)⟩
  case round =>
    obtain ⟨k, hk1, rfl, HB, I⟩ := hrel
    obtain ⟨wl, rfl⟩ : ∃ x, x = wr := ⟨_, rfl⟩
    by_cases hlt : k < n
    · have hlt' : (k : Int) < (n : Int) := by omega
      obtain ⟨j, rfl⟩ : ∃ j, k = j + 1 := ⟨k - 1, by omega⟩
      obtain ⟨x, a1, cs1, hx, rfl, q1, ⟨rfl, _⟩, q0, _⟩ := S.out.elem HB.out j (by omega)
      have e0 := q0 (by decide)
      obtain ⟨y, a2, cs2, hy, ha, q3, ⟨rfl, _⟩, q4, _⟩ := S.out.elem HB.out (j + 1) (by omega)
      cases ha
      have e1 := q4 (by decide)
      simp only [List.getElem?_cons_zero, Nat.mul_one] at e0 e1
      have e2 : wl.cell? ⟨a1.block, a1.off + (j + 1), none⟩ = some (.int .i64 y) := by
        have h := e1
        unfold Addr.add at h
        rw [if_neg (by omega)] at h
        exact h
      have HX := Lib.hid (And.intro hx hy)
      have hw : wrap64 ((j : Int) + 1 - 1) = (j : Int) := by unfold wrap64; omega
      have hw2 : wrap64 (((j + 1 : Nat) : Int) - 1) = (j : Int) := by unfold wrap64; omega
      have hw3 : wrap64 (j : Int) = (j : Int) := by unfold wrap64; omega
      have hw4 : (IntKind.i64).wrap (j : Int) = (j : Int) := by rw [IntKind.wrap_i64]; omega
      have hjp : (0 : Int) ≤ (j : Int) + 1 := by omega
      have hjn : (j : Int) + 1 < (n : Int) := by omega
      have htn : ((j : Int) + 1).toNat = j + 1 := by omega
      have hj0 : (0 : Int) ≤ (j : Int) := by omega
      have hj1 : (j : Int) < (n : Int) := by omega
      clear q0 q1 q3 q4 hx hy
      by_cases hxy : x < y
      · have d1 := decide_eq_true hxy
        have I2 := Lib.hid (show risesTo xs (j + 1 + 1) from fun i a b hi ha hb => by
          by_cases e : i = j
          · subst e
            rw [HX.out.1] at ha; rw [HX.out.2] at hb
            cases ha; cases hb
            exact hxy
          · exact I.out i a b (by omega) ha hb)
        clear hxy
        go_wp2_with fail
        go_still_tail 10, (by kernel_rfl)
        go_wp2_with fail
        (with_reducible refine (C.out _ _ _).mono ?_)
        rintro e w1 ⟨rfl, rfl⟩
        go_wp2_with fail
        go_roundw
        case measure => simp [intOf]; omega
        case rel => exact ⟨j + 1 + 1, by omega, by go_num, HB.out.drew, I2.out⟩
      · have d1 := decide_eq_false hxy
        have hno := Lib.hid (show ¬ rises xs from fun h => hxy (h j x y HX.out.1 HX.out.2))
        clear hxy
        go_wp2_with fail
        go_still_tail 10, (by kernel_rfl)
        go_wp2_with fail
        (with_reducible refine (C.out _ _ _).mono ?_)
        rintro e w1 ⟨rfl, rfl⟩
        go_wp2_with fail
        go_ret
        exact ⟨ret_f hno.out, HB.out.drew⟩
    · go_wp2_with fail
      go_ret
      exact ⟨ret_t fun i a b ha hb => I.out i a b (by have := (List.getElem?_eq_some_iff.1 hb).1; have := L.out; omega) ha hb, HB.out⟩
end Go.Proofs.YtechgcjdigpglaaGreat
namespace Go.Proofs.YtechgcjdigpglaaGreat
open Go.RowKit Go.ChangeShapes Go.WideShapes Go.Deep
set_option linter.all false

def rowOne (most : Nat) (below : Bool) (x : Int) : Prop := x ≠ 0 ∧ x ≤ (most : Int) ∧ -(most : Int) ≤ x ∧ (0 ≤ x ∨ below = true)
def rowMay (most : Nat) (below : Bool) (xs : List Int) : Prop := (∀ x ∈ xs, rowOne most below x) ∧ rises xs

set_option maxHeartbeats 4000000 in
set_option maxRecDepth 100000 in
theorem row_any (o : Option Addr) (n c : Nat) (xs : List Int) (most : Nat) (below : Bool) (w : World) (h : Row w 1 (rI .i64) (.slice o n c) xs) (hn : n ≤ 10000) (hm : most ≤ 10000) :
    Calls Tryz.prog 82 #[.slice o n c, .int .i64 (most : Nat), .bool below] w fun e w' => e = .returned (.bool (dec (rowMay most below xs))) ∧ Below w.heap.size w w' := by
  have S := Lib.hid h
  have L := Lib.hid h.len
  have C := Lib.hid (fun W hb => risesI o n c xs W (h.later' (w' := W) hb) hn)
  clear h
  have hneg : wrap64 (-(most : Int)) = -(most : Int) := by unfold wrap64; omega
  have hneg2 : (IntKind.i64).wrap (-(most : Int)) = -(most : Int) := by rw [IntKind.wrap_i64]; omega
  go_enter Tryz.func82, Tryz.ntmps82
  go_wp2_with fail
  go_loopw [11] (fun b wr => ∃ k : Nat, k ≤ n ∧ b = .int .i64 (k : Nat) ∧ wr = w ∧ Hid (∀ (i : Nat) x, i < k → xs[i]? = some x → rowOne most below x)) (fun b _ => n - (intOf b).toNat)
  case atStart => exact ⟨0, Nat.zero_le _, rfl, rfl, fun i x h => absurd h (Nat.not_lt_zero _)⟩
  case round =>
    obtain ⟨k, hk, rfl, rfl, I⟩ := hrel
    by_cases hlt : k < n
    · have hlt' : (k : Int) < (n : Int) := by omega
      obtain ⟨x, a1, cs1, hx, rfl, q1, ⟨rfl, _⟩, q0, _⟩ := S.out.elem (Below.refl _ _) k hlt
      have e0 := q0 (by decide)
      simp only [List.getElem?_cons_zero, Nat.mul_one] at e0
      have HX := Lib.hid hx
      clear q0 q1 hx
      by_cases h1 : x = 0
      · have b1 : (x == 0) = true := by simpa using h1
        have hno := Lib.hid (show ¬ rowMay most below xs from fun h => (h.1 x (List.mem_of_getElem? HX.out)).1 h1)
        clear h1
        go_wp2_with fail
        go_ret
        exact ⟨ret_f hno.out, Below.refl _ _⟩
      · have b1 : (x == 0) = false := by simpa using h1
        by_cases h2 : (most : Int) < x
        · have d2 := decide_eq_true h2
          have hno := Lib.hid (show ¬ rowMay most below xs from fun h => by have := (h.1 x (List.mem_of_getElem? HX.out)).2.1; omega)
          clear h1 h2
          go_wp2_with fail
          go_ret
          exact ⟨ret_f hno.out, Below.refl _ _⟩
        · have d2 := decide_eq_false h2
          by_cases h3 : x < -(most : Int)
          · have d3 := decide_eq_true h3
            have hno := Lib.hid (show ¬ rowMay most below xs from fun h => by have := (h.1 x (List.mem_of_getElem? HX.out)).2.2.1; omega)
            clear h1 h2 h3
            go_wp2_with fail
            go_ret
            exact ⟨ret_f hno.out, Below.refl _ _⟩
          · have d3 := decide_eq_false h3
            by_cases h4 : x < 0
            · have d4 := decide_eq_true h4
              cases below with
              | false =>
                have hno := Lib.hid (show ¬ rowMay most false xs from fun h => by
                  have := (h.1 x (List.mem_of_getElem? HX.out)).2.2.2
                  rcases this with h | h
                  · omega
                  · cases h)
                clear h1 h2 h3 h4
                go_wp2_with fail
                go_ret
                exact ⟨ret_f hno.out, Below.refl _ _⟩
              | true =>
                have I2 := Lib.hid (show ∀ (i : Nat) z, i < k + 1 → xs[i]? = some z → rowOne most true z from fun i z hi hz => by
                  by_cases e : i = k
                  · subst e
                    rw [HX.out] at hz; cases hz
                    exact ⟨h1, by omega, by omega, .inr rfl⟩
                  · exact I.out i z (by omega) hz)
                clear h1 h2 h3 h4
                go_wp2_with fail
                go_roundw
                case measure => simp [intOf]; omega
                case rel => exact ⟨k + 1, by omega, by go_num, by trivial, I2.out⟩
            · have d4 := decide_eq_false h4
              have I2 := Lib.hid (show ∀ (i : Nat) z, i < k + 1 → xs[i]? = some z → rowOne most below z from fun i z hi hz => by
                by_cases e : i = k
                · subst e
                  rw [HX.out] at hz; cases hz
                  exact ⟨h1, by omega, by omega, .inl (by omega)⟩
                · exact I.out i z (by omega) hz)
              clear h1 h2 h3 h4
              go_wp2_with fail
              go_roundw
              case measure => simp [intOf]; omega
              case rel => exact ⟨k + 1, by omega, by go_num, by trivial, I2.out⟩
    · obtain rfl : n = k := by omega
      have hall : ∀ x ∈ xs, rowOne most below x := fun x hx => by
        obtain ⟨i, hi, rfl⟩ := List.getElem_of_mem hx
        exact I.out i _ (by have := L.out; omega) (List.getElem?_eq_getElem hi)
      have HALL := Lib.hid hall
      clear hall
      go_wp2_with fail
      (with_reducible refine (C.out _ (Below.refl _ _)).mono ?_)
      rintro e w1 ⟨rfl, hb1⟩
      have HB := Lib.hid hb1
      clear hb1
      go_wp2_with fail
      go_ret
      refine ⟨?_, HB.out⟩
      by_cases hr : rises xs
      · rw [dec_t hr]; exact ret_t ⟨HALL.out, hr⟩
      · rw [dec_f hr]; exact ret_f fun h => hr h.2

def endsMay (r : RuleD) : Prop := 0 ≤ r.count ∧ r.count ≤ 5000 ∧ (r.until_ = -1 ∨ (0 ≤ r.until_ ∧ r.until_ < 158310720 ∧ r.count = 0))
end Go.Proofs.YtechgcjdigpglaaGreat
namespace Go.Proofs.YtechgcjdigpglaaGreat
open Go.RowKit Go.ChangeShapes Go.WideShapes Go.Deep
set_option linter.all false

def dlt (a b : DayND) : Prop := a.n < b.n ∨ a.n = b.n ∧ a.day < b.day
def risesDay (xs : List DayND) : Prop := ∀ (i : Nat) a b, xs[i]? = some a → xs[i + 1]? = some b → dlt a b
def risesDayTo (xs : List DayND) (k : Nat) : Prop := ∀ (i : Nat) a b, i + 1 < k → xs[i]? = some a → xs[i + 1]? = some b → dlt a b

set_option maxHeartbeats 2000000 in
theorem lessD (a b : DayND) (w : World) : Calls Tryz.prog 127 #[.agg #[.int .i64 a.n, .int .i64 a.day], .agg #[.int .i64 b.n, .int .i64 b.day]] w fun e w' => e = .returned (.bool (dec (dlt a b))) ∧ Below w.heap.size w w' := by
  have HB := Lib.hid (show Below w.heap.size w ((w.alloc (.cells #[.int .i64 a.n, .int .i64 a.day] 117)).alloc (.cells #[.int .i64 b.n, .int .i64 b.day] 117)) from ((Below.refl _ _).alloc (Nat.le_refl _) _).alloc (by simp) _)
  by_cases h1 : a.n < b.n
  · have d1 := decide_eq_true h1
    have hy := Lib.hid (show dlt a b from .inl h1)
    clear h1
    go_enter Tryz.func127, Tryz.ntmps127
    go_wp2_with fail
    go_ret
    exact ⟨ret_t hy.out, HB.out⟩
  · have d1 := decide_eq_false h1
    by_cases h2 : a.n = b.n
    · have b2 : (a.n == b.n) = true := by simpa using h2
      by_cases h3 : a.day < b.day
      · have d3 := decide_eq_true h3
        have hy := Lib.hid (show dlt a b from .inr ⟨h2, h3⟩)
        clear h1 h2 h3
        go_enter Tryz.func127, Tryz.ntmps127
        go_wp2_with fail
        go_ret
        exact ⟨ret_t hy.out, HB.out⟩
      · have d3 := decide_eq_false h3
        have hy := Lib.hid (show ¬ dlt a b from fun h => h.elim h1 fun h => h3 h.2)
        clear h1 h2 h3
        go_enter Tryz.func127, Tryz.ntmps127
        go_wp2_with fail
        go_ret
        exact ⟨ret_f hy.out, HB.out⟩
    · have b2 : (a.n == b.n) = false := by simpa using h2
      have hy := Lib.hid (show ¬ dlt a b from fun h => h.elim h1 fun h => h2 h.1)
      clear h1 h2
      go_enter Tryz.func127, Tryz.ntmps127
      go_wp2_with fail
      go_ret
      exact ⟨ret_f hy.out, HB.out⟩

set_option maxHeartbeats 4000000 in
set_option maxRecDepth 100000 in
theorem risesD (o : Option Addr) (n c : Nat) (xs : List DayND) (w : World) (h : Row w 2 rDayN (.slice o n c) xs) (hn : n ≤ 10000) :
    Calls Tryz.prog 126 #[.slice o n c, .func (.func 127) #[] #[]] w fun e w' => e = .returned (.bool (dec (risesDay xs))) ∧ Below w.heap.size w w' := by
  have S := Lib.hid h
  have L := Lib.hid h.len
  clear h
  go_enter Tryz.func126, Tryz.ntmps126
  go_wp2_with fail
  go_loopw [5] (fun b wr => ∃ k : Nat, 1 ≤ k ∧ b = .int .i64 (k : Nat) ∧ Hid (Below w.heap.size w wr) ∧ Hid (risesDayTo xs k)) (fun b _ => n + 1 - (intOf b).toNat)
  case atStart => exact ⟨1, Nat.le_refl _, rfl, Below.refl _ _, fun i a b h => absurd h (by omega)⟩
  case round =>
    obtain ⟨k, hk1, rfl, HB, I⟩ := hrel
    obtain ⟨wl, rfl⟩ : ∃ x, x = wr := ⟨_, rfl⟩
    by_cases hlt : k < n
    · have hlt' : (k : Int) < (n : Int) := by omega
      obtain ⟨j, rfl⟩ : ∃ j, k = j + 1 := ⟨k - 1, by omega⟩
      obtain ⟨x, a1, cs1, hx, rfl, q1, ⟨rfl, _, _⟩, q0, q0'⟩ := S.out.elem HB.out j (by omega)
      have e0 := q0 (by decide)
      have e1 := q0' 1 (by decide) (by decide)
      obtain ⟨y, a2, cs2, hy, ha, q3, ⟨rfl, _, _⟩, q4, q4'⟩ := S.out.elem HB.out (j + 1) (by omega)
      cases ha
      have f0 := q4 (by decide)
      have f1 := q4' 1 (by decide) (by decide)
      simp only [List.getElem?_cons_zero, List.getElem?_cons_succ] at e0 e1 f0 f1
      have HX := Lib.hid (And.intro hx hy)
      have C := Lib.hid (fun W => lessD x y W)
      have hw : wrap64 ((j : Int) + 1 - 1) = (j : Int) := by unfold wrap64; omega
      have hw4 : (IntKind.i64).wrap (j : Int) = (j : Int) := by rw [IntKind.wrap_i64]; omega
      have hjp : (0 : Int) ≤ (j : Int) + 1 := by omega
      have hjn : (j : Int) + 1 < (n : Int) := by omega
      have htn : ((j : Int) + 1).toNat = j + 1 := by omega
      have hj0 : (0 : Int) ≤ (j : Int) := by omega
      have hj1 : (j : Int) < (n : Int) := by omega
      clear q0 q1 q3 q4 q0' q4' hx hy
      by_cases hxy : dlt x y
      · rw [dec_t hxy] at C
        have I2 := Lib.hid (show risesDayTo xs (j + 1 + 1) from fun i a b hi ha hb => by
          by_cases e : i = j
          · subst e
            rw [HX.out.1] at ha; rw [HX.out.2] at hb
            cases ha; cases hb
            exact hxy
          · exact I.out i a b (by omega) ha hb)
        clear hxy
        go_wp2_with fail
        go_still_tail 10, (by kernel_rfl)
        go_wp2_with fail
        (with_reducible refine (C.out _).mono ?_)
        rintro e w1 ⟨rfl, hb1⟩
        have HB2 := Lib.hid (below_call HB.out.drew hb1)
        clear hb1 e0 e1 f0 f1
        go_wp2_with fail
        go_roundw
        case measure => simp [intOf]; omega
        case rel => exact ⟨j + 1 + 1, by omega, by go_num, HB2.out, I2.out⟩
      · rw [dec_f hxy] at C
        have hno := Lib.hid (show ¬ risesDay xs from fun h => hxy (h j x y HX.out.1 HX.out.2))
        clear hxy
        go_wp2_with fail
        go_still_tail 10, (by kernel_rfl)
        go_wp2_with fail
        (with_reducible refine (C.out _).mono ?_)
        rintro e w1 ⟨rfl, hb1⟩
        have HB2 := Lib.hid (below_call HB.out.drew hb1)
        clear hb1 e0 e1 f0 f1
        go_wp2_with fail
        go_ret
        exact ⟨ret_f hno.out, HB2.out⟩
    · go_wp2_with fail
      go_ret
      exact ⟨ret_t fun i a b ha hb => I.out i a b (by have := (List.getElem?_eq_some_iff.1 hb).1; have := L.out; omega) ha hb, HB.out⟩
end Go.Proofs.YtechgcjdigpglaaGreat
namespace Go.Proofs.YtechgcjdigpglaaGreat
open Go.RowKit Go.ChangeShapes Go.WideShapes Go.Deep
set_option linter.all false

set_option maxHeartbeats 4000000 in
theorem ends_any (cs : List Value) (r : RuleD) (w : World) (h : rRule w cs r) :
    Calls Tryz.prog 81 #[.agg cs.toArray] w fun e w' => e = .returned (.bool (dec (endsMay r))) ∧ Below w.heap.size w w' := by
  obtain ⟨m, d, y, p, rfl, -, -, -, -, -, ⟨om, nm, cm, rfl, -⟩, ⟨od, nd, cd, rfl, -⟩, ⟨oy, ny, cy, rfl, -⟩, ⟨op, np, cp, rfl, -⟩⟩ := h
  have HB := Lib.hid (show Below w.heap.size w (w.alloc (.cells #[.int .i64 r.freq, .int .i64 r.interval, .int .i64 r.count, .int .i64 r.until_, .slice om nm cm, .slice od nd cd, .slice oy ny cy, .slice op np cp, .int .i64 r.start] 28)) from (Below.refl _ _).alloc (Nat.le_refl _) _)
  by_cases h1 : r.count < 0
  · have d1 := decide_eq_true h1
    have hno := Lib.hid (show ¬ endsMay r from fun h => by have := h.1; omega)
    clear h1
    go_enter Tryz.func81, Tryz.ntmps81
    go_wp2_with fail
    go_ret
    exact ⟨ret_f hno.out, HB.out⟩
  · have d1 := decide_eq_false h1
    by_cases h2 : 5000 < r.count
    · have d2 := decide_eq_true h2
      have hno := Lib.hid (show ¬ endsMay r from fun h => by have := h.2.1; omega)
      clear h1 h2
      go_enter Tryz.func81, Tryz.ntmps81
      go_wp2_with fail
      go_ret
      exact ⟨ret_f hno.out, HB.out⟩
    · have d2 := decide_eq_false h2
      by_cases h3 : r.until_ = -1
      · have b3 : (r.until_ == -1) = true := by simpa using h3
        have hyes := Lib.hid (show endsMay r from ⟨by omega, by omega, .inl h3⟩)
        clear h1 h2 h3
        go_enter Tryz.func81, Tryz.ntmps81
        go_wp2_with fail
        go_ret
        exact ⟨ret_t hyes.out, HB.out⟩
      · have b3 : (r.until_ == -1) = false := by simpa using h3
        by_cases h4 : 0 ≤ r.until_
        · have d4 := decide_eq_true h4
          by_cases h5 : r.until_ < 158310720
          · have d5 := decide_eq_true h5
            by_cases h6 : r.count = 0
            · have b6 : (r.count == 0) = true := by simpa using h6
              have hyes := Lib.hid (show endsMay r from ⟨by omega, by omega, .inr ⟨h4, h5, h6⟩⟩)
              clear h1 h2 h3 h4 h5 h6
              go_enter Tryz.func81, Tryz.ntmps81
              go_wp2_with fail
              go_ret
              exact ⟨ret_t hyes.out, HB.out⟩
            · have b6 : (r.count == 0) = false := by simpa using h6
              have hno := Lib.hid (show ¬ endsMay r from fun h => h.2.2.elim h3 fun h => h6 h.2.2)
              clear h1 h2 h3 h4 h5 h6
              go_enter Tryz.func81, Tryz.ntmps81
              go_wp2_with fail
              go_ret
              exact ⟨ret_f hno.out, HB.out⟩
          · have d5 := decide_eq_false h5
            have hno := Lib.hid (show ¬ endsMay r from fun h => h.2.2.elim h3 fun h => h5 h.2.1)
            clear h1 h2 h3 h4 h5
            go_enter Tryz.func81, Tryz.ntmps81
            go_wp2_with fail
            go_ret
            exact ⟨ret_f hno.out, HB.out⟩
        · have d4 := decide_eq_false h4
          have hno := Lib.hid (show ¬ endsMay r from fun h => h.2.2.elim h3 fun h => h4 h.1)
          clear h1 h2 h3 h4
          go_enter Tryz.func81, Tryz.ntmps81
          go_wp2_with fail
          go_ret
          exact ⟨ret_f hno.out, HB.out⟩

/-- May days stand with a number? -/
def nthMay (r : RuleD) : Prop := r.freq = 3 ∨ r.freq = 4 ∧ 0 < r.byMonth.length
def dayOne (r : RuleD) (d : DayND) : Prop := 0 ≤ d.day ∧ d.day ≤ 6 ∧ -5 ≤ d.n ∧ d.n ≤ 5 ∧ (d.n = 0 ∨ nthMay r)
def daysMay (r : RuleD) : Prop := (∀ d ∈ r.byDay, dayOne r d) ∧ risesDay r.byDay
end Go.Proofs.YtechgcjdigpglaaGreat
namespace Go.Proofs.YtechgcjdigpglaaGreat
open Go.RowKit Go.ChangeShapes Go.WideShapes Go.Deep
set_option linter.all false

set_option maxHeartbeats 8000000 in
set_option maxRecDepth 100000 in
theorem daysMay_any (cs : List Value) (r : RuleD) (w : World) (h : rRule w cs r) (hl : r.byDay.length ≤ 10000) (hlm : r.byMonth.length ≤ 10000) :
    Calls Tryz.prog 83 #[.agg cs.toArray] w fun e w' => e = .returned (.bool (dec (daysMay r))) ∧ Below w.heap.size w w' := by
  obtain ⟨m, d, y, p, rfl, -, -, -, -, -, hm, ⟨od, nd, cd, rfl, -⟩, hy, ⟨op, np, cp, rfl, -⟩⟩ := h
  obtain ⟨om, nm, cm, rfl, lm, -, -, -⟩ := hm.open
  obtain ⟨oy, ny, cy, rfl, ly, -, -, RY⟩ := hy.open
  have S := Lib.hid RY
  have L := Lib.hid ly
  have LM := Lib.hid lm
  have hny : ny ≤ 10000 := by omega
  have C := Lib.hid (fun (W : World) (hb : Below w.heap.size w W) => risesD oy ny cy r.byDay W (RY.later' hb) hny)
  have HB := Lib.hid (show Below w.heap.size w (w.alloc (.cells #[.int .i64 r.freq, .int .i64 r.interval, .int .i64 r.count, .int .i64 r.until_, .slice om nm cm, .slice od nd cd, .slice oy ny cy, .slice op np cp, .int .i64 r.start] 28)) from (Below.refl _ _).alloc (Nat.le_refl _) _)
  clear hm hy RY ly lm hl hlm
  by_cases g1 : r.freq = 3
  · have b1 : (r.freq == 3) = true := by simpa using g1
    have hnt := Lib.hid (show nthMay r from .inl g1)
    clear g1
    go_enter Tryz.func83, Tryz.ntmps83
    go_wp2_with fail
    go_loopw [23] (fun b wr => ∃ k : Nat, k ≤ ny ∧ b = .int .i64 (k : Nat) ∧ (∀ j, World.cell? wr ⟨w.heap.size, j, none⟩ = World.cell? (w.alloc (.cells #[.int .i64 r.freq, .int .i64 r.interval, .int .i64 r.count, .int .i64 r.until_, .slice om nm cm, .slice od nd cd, .slice oy ny cy, .slice op np cp, .int .i64 r.start] 28)) ⟨w.heap.size, j, none⟩) ∧ w.heap.size < wr.heap.size ∧ Hid (Below w.heap.size w wr) ∧ Hid (∀ (i : Nat) x, i < k → r.byDay[i]? = some x → dayOne r x)) (fun b _ => ny - (intOf b).toNat)
    case atStart => exact ⟨0, Nat.zero_le _, rfl, fun _ => rfl, by simp, HB.out, fun i x h => absurd h (Nat.not_lt_zero _)⟩
    case round =>
      obtain ⟨k, hk, rfl, kA, hz, HBw, I⟩ := hrel
      obtain ⟨wl, rfl⟩ : ∃ x, x = wr := ⟨_, rfl⟩
      by_cases hlt : k < ny
      · have hlt' : (k : Int) < (ny : Int) := by omega
        obtain ⟨v, a1, cs1, hx, rfl, q1, ⟨rfl, _, _⟩, q0, q0'⟩ := S.out.elem HBw.out k hlt
        have e0 := q0 (by decide)
        have e1 := q0' 1 (by decide) (by decide)
        simp only [List.getElem?_cons_zero, List.getElem?_cons_succ] at e0 e1
        have HX := Lib.hid hx
        have HBo := Lib.hid (fun (o : Obj) => HBw.out.alloc (Nat.le_of_lt hz) o)
        clear q0 q0' q1 hx
        by_cases h1 : v.day < 0
        · have d1 := decide_eq_true h1
          have hno := Lib.hid (show ¬ daysMay r from fun h => by have hd := h.1 v (List.mem_of_getElem? HX.out); unfold dayOne at hd; omega)
          clear h1
          go_wp2_with fail
          go_ret
          exact ⟨ret_f hno.out, HBo.out _⟩
        · have d1 := decide_eq_false h1
          by_cases h2 : 6 < v.day
          · have d2 := decide_eq_true h2
            have hno := Lib.hid (show ¬ daysMay r from fun h => by have hd := h.1 v (List.mem_of_getElem? HX.out); unfold dayOne at hd; omega)
            clear h1 h2
            go_wp2_with fail
            go_ret
            exact ⟨ret_f hno.out, HBo.out _⟩
          · have d2 := decide_eq_false h2
            by_cases h3 : v.n < -5
            · have d3 := decide_eq_true h3
              have hno := Lib.hid (show ¬ daysMay r from fun h => by have hd := h.1 v (List.mem_of_getElem? HX.out); unfold dayOne at hd; omega)
              clear h1 h2 h3
              go_wp2_with fail
              go_ret
              exact ⟨ret_f hno.out, HBo.out _⟩
            · have d3 := decide_eq_false h3
              by_cases h4 : 5 < v.n
              · have d4 := decide_eq_true h4
                have hno := Lib.hid (show ¬ daysMay r from fun h => by have hd := h.1 v (List.mem_of_getElem? HX.out); unfold dayOne at hd; omega)
                clear h1 h2 h3 h4
                go_wp2_with fail
                go_ret
                exact ⟨ret_f hno.out, HBo.out _⟩
              · have d4 := decide_eq_false h4
                by_cases h5 : v.n = 0
                · have b5 : (v.n == 0) = true := by simpa using h5
                  have c5 : (v.n != 0) = false := by simp [h5]
                  have I2 := Lib.hid (show ∀ (i : Nat) z, i < k + 1 → r.byDay[i]? = some z → dayOne r z from fun i z hi hz => by
                    by_cases e : i = k
                    · subst e
                      rw [HX.out] at hz; cases hz
                      exact ⟨by omega, by omega, by omega, by omega, .inl h5⟩
                    · exact I.out i z (by omega) hz)
                  clear h1 h2 h3 h4
                  go_wp2_with fail
                  go_roundw
                  case measure => simp [intOf]; omega
                  case rel => exact ⟨k + 1, by omega, by go_num, fun j => (World.cell?_alloc_lt _ _ _ hz).trans (kA j), by simp; omega, HBo.out _, I2.out⟩
                · have b5 : (v.n == 0) = false := by simpa using h5
                  have c5 : (v.n != 0) = true := by simp [h5]
                  have I2 := Lib.hid (show ∀ (i : Nat) z, i < k + 1 → r.byDay[i]? = some z → dayOne r z from fun i z hi hz => by
                    by_cases e : i = k
                    · subst e
                      rw [HX.out] at hz; cases hz
                      exact ⟨by omega, by omega, by omega, by omega, .inr hnt.out⟩
                    · exact I.out i z (by omega) hz)
                  clear h1 h2 h3 h4
                  go_wp2_with fail
                  go_roundw
                  case measure => simp [intOf]; omega
                  case rel => exact ⟨k + 1, by omega, by go_num, fun j => (World.cell?_alloc_lt _ _ _ hz).trans (kA j), by simp; omega, HBo.out _, I2.out⟩
      · obtain rfl : ny = k := by omega
        have hall : ∀ d ∈ r.byDay, dayOne r d := fun d hd => by
          obtain ⟨i, hi, rfl⟩ := List.getElem_of_mem hd
          exact I.out i _ (by have := L.out; omega) (List.getElem?_eq_getElem hi)
        have HALL := Lib.hid hall
        clear hall
        go_wp2_with fail
        (with_reducible refine (C.out _ HBw.out).mono ?_)
        rintro e w1 ⟨rfl, hb1⟩
        have HB1 := Lib.hid (below_call HBw.out hb1)
        clear hb1
        go_wp2_with fail
        go_ret
        refine ⟨?_, HB1.out⟩
        by_cases hr : risesDay r.byDay
        · rw [dec_t hr]; exact ret_t ⟨HALL.out, hr⟩
        · rw [dec_f hr]; exact ret_f fun h => hr h.2
  · have b1 : (r.freq == 3) = false := by simpa using g1
    by_cases g2 : r.freq = 4
    · have b2 : (r.freq == 4) = true := by simpa using g2
      by_cases g3 : 0 < nm
      · have d3 : (0 : Int) < (nm : Int) := by omega
        have e3 := decide_eq_true d3
        have f3 : decide (0 < nm) = true := decide_eq_true g3
        have hnt := Lib.hid (show nthMay r from .inr ⟨g2, by rw [LM.out]; exact g3⟩)
        clear g1 g2
        go_enter Tryz.func83, Tryz.ntmps83
        go_wp2_with fail
        go_loopw [23] (fun b wr => ∃ k : Nat, k ≤ ny ∧ b = .int .i64 (k : Nat) ∧ (∀ j, World.cell? wr ⟨w.heap.size, j, none⟩ = World.cell? (w.alloc (.cells #[.int .i64 r.freq, .int .i64 r.interval, .int .i64 r.count, .int .i64 r.until_, .slice om nm cm, .slice od nd cd, .slice oy ny cy, .slice op np cp, .int .i64 r.start] 28)) ⟨w.heap.size, j, none⟩) ∧ w.heap.size < wr.heap.size ∧ Hid (Below w.heap.size w wr) ∧ Hid (∀ (i : Nat) x, i < k → r.byDay[i]? = some x → dayOne r x)) (fun b _ => ny - (intOf b).toNat)
        case atStart => exact ⟨0, Nat.zero_le _, rfl, fun _ => rfl, by simp, HB.out, fun i x h => absurd h (Nat.not_lt_zero _)⟩
        case round =>
          obtain ⟨k, hk, rfl, kA, hz, HBw, I⟩ := hrel
          obtain ⟨wl, rfl⟩ : ∃ x, x = wr := ⟨_, rfl⟩
          by_cases hlt : k < ny
          · have hlt' : (k : Int) < (ny : Int) := by omega
            obtain ⟨v, a1, cs1, hx, rfl, q1, ⟨rfl, _, _⟩, q0, q0'⟩ := S.out.elem HBw.out k hlt
            have e0 := q0 (by decide)
            have e1 := q0' 1 (by decide) (by decide)
            simp only [List.getElem?_cons_zero, List.getElem?_cons_succ] at e0 e1
            have HX := Lib.hid hx
            have HBo := Lib.hid (fun (o : Obj) => HBw.out.alloc (Nat.le_of_lt hz) o)
            clear q0 q0' q1 hx
            by_cases h1 : v.day < 0
            · have d1 := decide_eq_true h1
              have hno := Lib.hid (show ¬ daysMay r from fun h => by have hd := h.1 v (List.mem_of_getElem? HX.out); unfold dayOne at hd; omega)
              clear h1
              go_wp2_with fail
              go_ret
              exact ⟨ret_f hno.out, HBo.out _⟩
            · have d1 := decide_eq_false h1
              by_cases h2 : 6 < v.day
              · have d2 := decide_eq_true h2
                have hno := Lib.hid (show ¬ daysMay r from fun h => by have hd := h.1 v (List.mem_of_getElem? HX.out); unfold dayOne at hd; omega)
                clear h1 h2
                go_wp2_with fail
                go_ret
                exact ⟨ret_f hno.out, HBo.out _⟩
              · have d2 := decide_eq_false h2
                by_cases h3 : v.n < -5
                · have d3 := decide_eq_true h3
                  have hno := Lib.hid (show ¬ daysMay r from fun h => by have hd := h.1 v (List.mem_of_getElem? HX.out); unfold dayOne at hd; omega)
                  clear h1 h2 h3
                  go_wp2_with fail
                  go_ret
                  exact ⟨ret_f hno.out, HBo.out _⟩
                · have d3 := decide_eq_false h3
                  by_cases h4 : 5 < v.n
                  · have d4 := decide_eq_true h4
                    have hno := Lib.hid (show ¬ daysMay r from fun h => by have hd := h.1 v (List.mem_of_getElem? HX.out); unfold dayOne at hd; omega)
                    clear h1 h2 h3 h4
                    go_wp2_with fail
                    go_ret
                    exact ⟨ret_f hno.out, HBo.out _⟩
                  · have d4 := decide_eq_false h4
                    by_cases h5 : v.n = 0
                    · have b5 : (v.n == 0) = true := by simpa using h5
                      have c5 : (v.n != 0) = false := by simp [h5]
                      have I2 := Lib.hid (show ∀ (i : Nat) z, i < k + 1 → r.byDay[i]? = some z → dayOne r z from fun i z hi hz => by
                        by_cases e : i = k
                        · subst e
                          rw [HX.out] at hz; cases hz
                          exact ⟨by omega, by omega, by omega, by omega, .inl h5⟩
                        · exact I.out i z (by omega) hz)
                      clear h1 h2 h3 h4
                      go_wp2_with fail
                      go_roundw
                      case measure => simp [intOf]; omega
                      case rel => exact ⟨k + 1, by omega, by go_num, fun j => (World.cell?_alloc_lt _ _ _ hz).trans (kA j), by simp; omega, HBo.out _, I2.out⟩
                    · have b5 : (v.n == 0) = false := by simpa using h5
                      have c5 : (v.n != 0) = true := by simp [h5]
                      have I2 := Lib.hid (show ∀ (i : Nat) z, i < k + 1 → r.byDay[i]? = some z → dayOne r z from fun i z hi hz => by
                        by_cases e : i = k
                        · subst e
                          rw [HX.out] at hz; cases hz
                          exact ⟨by omega, by omega, by omega, by omega, .inr hnt.out⟩
                        · exact I.out i z (by omega) hz)
                      clear h1 h2 h3 h4
                      go_wp2_with fail
                      go_roundw
                      case measure => simp [intOf]; omega
                      case rel => exact ⟨k + 1, by omega, by go_num, fun j => (World.cell?_alloc_lt _ _ _ hz).trans (kA j), by simp; omega, HBo.out _, I2.out⟩
          · obtain rfl : ny = k := by omega
            have hall : ∀ d ∈ r.byDay, dayOne r d := fun d hd => by
              obtain ⟨i, hi, rfl⟩ := List.getElem_of_mem hd
              exact I.out i _ (by have := L.out; omega) (List.getElem?_eq_getElem hi)
            have HALL := Lib.hid hall
            clear hall
            go_wp2_with fail
            (with_reducible refine (C.out _ HBw.out).mono ?_)
            rintro e w1 ⟨rfl, hb1⟩
            have HB1 := Lib.hid (below_call HBw.out hb1)
            clear hb1
            go_wp2_with fail
            go_ret
            refine ⟨?_, HB1.out⟩
            by_cases hr : risesDay r.byDay
            · rw [dec_t hr]; exact ret_t ⟨HALL.out, hr⟩
            · rw [dec_f hr]; exact ret_f fun h => hr h.2
      · have d3 : ¬ (0 : Int) < (nm : Int) := by omega
        have e3 := decide_eq_false d3
        have f3 : decide (0 < nm) = false := decide_eq_false g3
        have hnt := Lib.hid (show ¬ nthMay r from fun h => h.elim g1 fun h => by have := h.2; rw [LM.out] at this; omega)
        clear g1 g2
        go_enter Tryz.func83, Tryz.ntmps83
        go_wp2_with fail
        go_loopw [23] (fun b wr => ∃ k : Nat, k ≤ ny ∧ b = .int .i64 (k : Nat) ∧ (∀ j, World.cell? wr ⟨w.heap.size, j, none⟩ = World.cell? (w.alloc (.cells #[.int .i64 r.freq, .int .i64 r.interval, .int .i64 r.count, .int .i64 r.until_, .slice om nm cm, .slice od nd cd, .slice oy ny cy, .slice op np cp, .int .i64 r.start] 28)) ⟨w.heap.size, j, none⟩) ∧ w.heap.size < wr.heap.size ∧ Hid (Below w.heap.size w wr) ∧ Hid (∀ (i : Nat) x, i < k → r.byDay[i]? = some x → dayOne r x)) (fun b _ => ny - (intOf b).toNat)
        case atStart => exact ⟨0, Nat.zero_le _, rfl, fun _ => rfl, by simp, HB.out, fun i x h => absurd h (Nat.not_lt_zero _)⟩
        case round =>
          obtain ⟨k, hk, rfl, kA, hz, HBw, I⟩ := hrel
          obtain ⟨wl, rfl⟩ : ∃ x, x = wr := ⟨_, rfl⟩
          by_cases hlt : k < ny
          · have hlt' : (k : Int) < (ny : Int) := by omega
            obtain ⟨v, a1, cs1, hx, rfl, q1, ⟨rfl, _, _⟩, q0, q0'⟩ := S.out.elem HBw.out k hlt
            have e0 := q0 (by decide)
            have e1 := q0' 1 (by decide) (by decide)
            simp only [List.getElem?_cons_zero, List.getElem?_cons_succ] at e0 e1
            have HX := Lib.hid hx
            have HBo := Lib.hid (fun (o : Obj) => HBw.out.alloc (Nat.le_of_lt hz) o)
            clear q0 q0' q1 hx
            by_cases h1 : v.day < 0
            · have d1 := decide_eq_true h1
              have hno := Lib.hid (show ¬ daysMay r from fun h => by have hd := h.1 v (List.mem_of_getElem? HX.out); unfold dayOne at hd; omega)
              clear h1
              go_wp2_with fail
              go_ret
              exact ⟨ret_f hno.out, HBo.out _⟩
            · have d1 := decide_eq_false h1
              by_cases h2 : 6 < v.day
              · have d2 := decide_eq_true h2
                have hno := Lib.hid (show ¬ daysMay r from fun h => by have hd := h.1 v (List.mem_of_getElem? HX.out); unfold dayOne at hd; omega)
                clear h1 h2
                go_wp2_with fail
                go_ret
                exact ⟨ret_f hno.out, HBo.out _⟩
              · have d2 := decide_eq_false h2
                by_cases h3 : v.n < -5
                · have d3 := decide_eq_true h3
                  have hno := Lib.hid (show ¬ daysMay r from fun h => by have hd := h.1 v (List.mem_of_getElem? HX.out); unfold dayOne at hd; omega)
                  clear h1 h2 h3
                  go_wp2_with fail
                  go_ret
                  exact ⟨ret_f hno.out, HBo.out _⟩
                · have d3 := decide_eq_false h3
                  by_cases h4 : 5 < v.n
                  · have d4 := decide_eq_true h4
                    have hno := Lib.hid (show ¬ daysMay r from fun h => by have hd := h.1 v (List.mem_of_getElem? HX.out); unfold dayOne at hd; omega)
                    clear h1 h2 h3 h4
                    go_wp2_with fail
                    go_ret
                    exact ⟨ret_f hno.out, HBo.out _⟩
                  · have d4 := decide_eq_false h4
                    by_cases h5 : v.n = 0
                    · have b5 : (v.n == 0) = true := by simpa using h5
                      have c5 : (v.n != 0) = false := by simp [h5]
                      have I2 := Lib.hid (show ∀ (i : Nat) z, i < k + 1 → r.byDay[i]? = some z → dayOne r z from fun i z hi hz => by
                        by_cases e : i = k
                        · subst e
                          rw [HX.out] at hz; cases hz
                          exact ⟨by omega, by omega, by omega, by omega, .inl h5⟩
                        · exact I.out i z (by omega) hz)
                      clear h1 h2 h3 h4
                      go_wp2_with fail
                      go_roundw
                      case measure => simp [intOf]; omega
                      case rel => exact ⟨k + 1, by omega, by go_num, fun j => (World.cell?_alloc_lt _ _ _ hz).trans (kA j), by simp; omega, HBo.out _, I2.out⟩
                    · have b5 : (v.n == 0) = false := by simpa using h5
                      have c5 : (v.n != 0) = true := by simp [h5]
                      have hno := Lib.hid (show ¬ daysMay r from fun h => by have hd := h.1 v (List.mem_of_getElem? HX.out); unfold dayOne at hd; exact hd.2.2.2.2.elim h5 hnt.out)
                      clear h1 h2 h3 h4
                      go_wp2_with fail
                      go_ret
                      exact ⟨ret_f hno.out, HBo.out _⟩
          · obtain rfl : ny = k := by omega
            have hall : ∀ d ∈ r.byDay, dayOne r d := fun d hd => by
              obtain ⟨i, hi, rfl⟩ := List.getElem_of_mem hd
              exact I.out i _ (by have := L.out; omega) (List.getElem?_eq_getElem hi)
            have HALL := Lib.hid hall
            clear hall
            go_wp2_with fail
            (with_reducible refine (C.out _ HBw.out).mono ?_)
            rintro e w1 ⟨rfl, hb1⟩
            have HB1 := Lib.hid (below_call HBw.out hb1)
            clear hb1
            go_wp2_with fail
            go_ret
            refine ⟨?_, HB1.out⟩
            by_cases hr : risesDay r.byDay
            · rw [dec_t hr]; exact ret_t ⟨HALL.out, hr⟩
            · rw [dec_f hr]; exact ret_f fun h => hr h.2
    · have b2 : (r.freq == 4) = false := by simpa using g2
      have hnt := Lib.hid (show ¬ nthMay r from fun h => h.elim g1 fun h => g2 h.1)
      clear g1 g2
      go_enter Tryz.func83, Tryz.ntmps83
      go_wp2_with fail
      go_loopw [23] (fun b wr => ∃ k : Nat, k ≤ ny ∧ b = .int .i64 (k : Nat) ∧ (∀ j, World.cell? wr ⟨w.heap.size, j, none⟩ = World.cell? (w.alloc (.cells #[.int .i64 r.freq, .int .i64 r.interval, .int .i64 r.count, .int .i64 r.until_, .slice om nm cm, .slice od nd cd, .slice oy ny cy, .slice op np cp, .int .i64 r.start] 28)) ⟨w.heap.size, j, none⟩) ∧ w.heap.size < wr.heap.size ∧ Hid (Below w.heap.size w wr) ∧ Hid (∀ (i : Nat) x, i < k → r.byDay[i]? = some x → dayOne r x)) (fun b _ => ny - (intOf b).toNat)
      case atStart => exact ⟨0, Nat.zero_le _, rfl, fun _ => rfl, by simp, HB.out, fun i x h => absurd h (Nat.not_lt_zero _)⟩
      case round =>
        obtain ⟨k, hk, rfl, kA, hz, HBw, I⟩ := hrel
        obtain ⟨wl, rfl⟩ : ∃ x, x = wr := ⟨_, rfl⟩
        by_cases hlt : k < ny
        · have hlt' : (k : Int) < (ny : Int) := by omega
          obtain ⟨v, a1, cs1, hx, rfl, q1, ⟨rfl, _, _⟩, q0, q0'⟩ := S.out.elem HBw.out k hlt
          have e0 := q0 (by decide)
          have e1 := q0' 1 (by decide) (by decide)
          simp only [List.getElem?_cons_zero, List.getElem?_cons_succ] at e0 e1
          have HX := Lib.hid hx
          have HBo := Lib.hid (fun (o : Obj) => HBw.out.alloc (Nat.le_of_lt hz) o)
          clear q0 q0' q1 hx
          by_cases h1 : v.day < 0
          · have d1 := decide_eq_true h1
            have hno := Lib.hid (show ¬ daysMay r from fun h => by have hd := h.1 v (List.mem_of_getElem? HX.out); unfold dayOne at hd; omega)
            clear h1
            go_wp2_with fail
            go_ret
            exact ⟨ret_f hno.out, HBo.out _⟩
          · have d1 := decide_eq_false h1
            by_cases h2 : 6 < v.day
            · have d2 := decide_eq_true h2
              have hno := Lib.hid (show ¬ daysMay r from fun h => by have hd := h.1 v (List.mem_of_getElem? HX.out); unfold dayOne at hd; omega)
              clear h1 h2
              go_wp2_with fail
              go_ret
              exact ⟨ret_f hno.out, HBo.out _⟩
            · have d2 := decide_eq_false h2
              by_cases h3 : v.n < -5
              · have d3 := decide_eq_true h3
                have hno := Lib.hid (show ¬ daysMay r from fun h => by have hd := h.1 v (List.mem_of_getElem? HX.out); unfold dayOne at hd; omega)
                clear h1 h2 h3
                go_wp2_with fail
                go_ret
                exact ⟨ret_f hno.out, HBo.out _⟩
              · have d3 := decide_eq_false h3
                by_cases h4 : 5 < v.n
                · have d4 := decide_eq_true h4
                  have hno := Lib.hid (show ¬ daysMay r from fun h => by have hd := h.1 v (List.mem_of_getElem? HX.out); unfold dayOne at hd; omega)
                  clear h1 h2 h3 h4
                  go_wp2_with fail
                  go_ret
                  exact ⟨ret_f hno.out, HBo.out _⟩
                · have d4 := decide_eq_false h4
                  by_cases h5 : v.n = 0
                  · have b5 : (v.n == 0) = true := by simpa using h5
                    have c5 : (v.n != 0) = false := by simp [h5]
                    have I2 := Lib.hid (show ∀ (i : Nat) z, i < k + 1 → r.byDay[i]? = some z → dayOne r z from fun i z hi hz => by
                      by_cases e : i = k
                      · subst e
                        rw [HX.out] at hz; cases hz
                        exact ⟨by omega, by omega, by omega, by omega, .inl h5⟩
                      · exact I.out i z (by omega) hz)
                    clear h1 h2 h3 h4
                    go_wp2_with fail
                    go_roundw
                    case measure => simp [intOf]; omega
                    case rel => exact ⟨k + 1, by omega, by go_num, fun j => (World.cell?_alloc_lt _ _ _ hz).trans (kA j), by simp; omega, HBo.out _, I2.out⟩
                  · have b5 : (v.n == 0) = false := by simpa using h5
                    have c5 : (v.n != 0) = true := by simp [h5]
                    have hno := Lib.hid (show ¬ daysMay r from fun h => by have hd := h.1 v (List.mem_of_getElem? HX.out); unfold dayOne at hd; exact hd.2.2.2.2.elim h5 hnt.out)
                    clear h1 h2 h3 h4
                    go_wp2_with fail
                    go_ret
                    exact ⟨ret_f hno.out, HBo.out _⟩
        · obtain rfl : ny = k := by omega
          have hall : ∀ d ∈ r.byDay, dayOne r d := fun d hd => by
            obtain ⟨i, hi, rfl⟩ := List.getElem_of_mem hd
            exact I.out i _ (by have := L.out; omega) (List.getElem?_eq_getElem hi)
          have HALL := Lib.hid hall
          clear hall
          go_wp2_with fail
          (with_reducible refine (C.out _ HBw.out).mono ?_)
          rintro e w1 ⟨rfl, hb1⟩
          have HB1 := Lib.hid (below_call HBw.out hb1)
          clear hb1
          go_wp2_with fail
          go_ret
          refine ⟨?_, HB1.out⟩
          by_cases hr : risesDay r.byDay
          · rw [dec_t hr]; exact ret_t ⟨HALL.out, hr⟩
          · rw [dec_f hr]; exact ret_f fun h => hr h.2
end Go.Proofs.YtechgcjdigpglaaGreat
namespace Go.Proofs.YtechgcjdigpglaaGreat
open Go.RowKit Go.ChangeShapes Go.WideShapes Go.Deep
set_option linter.all false

theorem ret_dec {b : Bool} {p : Prop} (h : b = true ↔ p) : Ending.returned (.bool b) = Ending.returned (.bool (dec p)) := by
  by_cases hp : p
  · rw [dec_t hp, h.2 hp]
  · rw [dec_f hp, Bool.eq_false_iff.2 fun hb => hp (h.1 hb)]

def mayR (r : RuleD) : Prop := 1 ≤ r.freq ∧ r.freq ≤ 4 ∧ 1 ≤ r.interval ∧ r.interval ≤ 999 ∧ endsMay r ∧ rowMay 12 false r.byMonth ∧ rowMay 31 true r.byMonthDay ∧ (r.freq ≠ 2 ∨ r.byMonthDay.length = 0) ∧ daysMay r ∧ rowMay 366 true r.bySetPos ∧ (0 < r.byMonth.length + r.byMonthDay.length + r.byDay.length ∨ r.bySetPos.length = 0) ∧ 0 ≤ r.start ∧ r.start ≤ 6
structure fewR (r : RuleD) : Prop where
  m : r.byMonth.length ≤ 10000
  d : r.byMonthDay.length ≤ 10000
  y : r.byDay.length ≤ 10000
  p : r.bySetPos.length ≤ 10000

set_option maxHeartbeats 20000000 in
set_option maxRecDepth 100000 in
theorem may_any (cs : List Value) (r : RuleD) (w : World) (h : rRule w cs r) (hf : fewR r) :
    Calls Tryz.prog 43 #[.agg cs.toArray] w fun e w' => e = .returned (.bool (dec (mayR r))) ∧ Below w.heap.size w w' := by
  have SR := Lib.hid h
  obtain ⟨m, d, y, p, rfl, -, -, -, -, -, hm, hd, hy, hp⟩ := h
  obtain ⟨om, nm, cm, rfl, lm, -, -, RM⟩ := hm.open
  obtain ⟨od, nd, cd, rfl, ld, -, -, RD⟩ := hd.open
  obtain ⟨oy, ny, cy, rfl, ly, -, -, RY⟩ := hy.open
  obtain ⟨op, np, cp, rfl, lp, -, -, RP⟩ := hp.open
  have LM := Lib.hid lm; have LD := Lib.hid ld; have LY := Lib.hid ly; have LP := Lib.hid lp
  have hnm : nm ≤ 10000 := by have := hf.m; omega
  have hnd : nd ≤ 10000 := by have := hf.d; omega
  have hny : ny ≤ 10000 := by have := hf.y; omega
  have hnp : np ≤ 10000 := by have := hf.p; omega
  have HB := Lib.hid (show Below w.heap.size w (w.alloc (.cells #[.int .i64 r.freq, .int .i64 r.interval, .int .i64 r.count, .int .i64 r.until_, .slice om nm cm, .slice od nd cd, .slice oy ny cy, .slice op np cp, .int .i64 r.start] 28)) from (Below.refl _ _).alloc (Nat.le_refl _) _)
  have C5 := Lib.hid (fun (W : World) (hb : Below w.heap.size w W) => ends_any _ r W (SR.out.later hb))
  have C6 := Lib.hid (fun (W : World) (hb : Below w.heap.size w W) => (show Calls Tryz.prog 82 #[.slice om nm cm, .int .i64 12, .bool false] W (fun e w' => e = .returned (.bool (dec (rowMay 12 false r.byMonth))) ∧ Below W.heap.size W w') from row_any om nm cm r.byMonth 12 false W (RM.later' hb) hnm (by decide)))
  have C7 := Lib.hid (fun (W : World) (hb : Below w.heap.size w W) => (show Calls Tryz.prog 82 #[.slice od nd cd, .int .i64 31, .bool true] W (fun e w' => e = .returned (.bool (dec (rowMay 31 true r.byMonthDay))) ∧ Below W.heap.size W w') from row_any od nd cd r.byMonthDay 31 true W (RD.later' hb) hnd (by decide)))
  have C9 := Lib.hid (fun (W : World) (hb : Below w.heap.size w W) => daysMay_any _ r W (SR.out.later hb) hf.y hf.m)
  have C10 := Lib.hid (fun (W : World) (hb : Below w.heap.size w W) => (show Calls Tryz.prog 82 #[.slice op np cp, .int .i64 366, .bool true] W (fun e w' => e = .returned (.bool (dec (rowMay 366 true r.bySetPos))) ∧ Below W.heap.size W w') from row_any op np cp r.bySetPos 366 true W (RP.later' hb) hnp (by decide)))
  have hs1 : wrap64 ((nm : Int) + (nd : Int)) = (nm : Int) + (nd : Int) := by unfold wrap64; omega
  have hs2 : wrap64 ((nm : Int) + (nd : Int) + (ny : Int)) = (nm : Int) + (nd : Int) + (ny : Int) := by unfold wrap64; omega
  clear hm hd hy hp RM RD RY RP lm ld ly lp hf hnm hnd hny hnp
  go_enter Tryz.func43, Tryz.ntmps43
  simp only [List.append_eq, List.cons_append, List.nil_append]
  go_wp2_with (first
    | (go_at_call 81; ((with_reducible refine (C5.out _ HB.out).mono ?_)); rintro e w1 ⟨rfl, hb1⟩; have kA1 : ∀ j, World.cell? w1 ⟨w.heap.size, j, none⟩ = World.cell? (w.alloc (.cells #[.int .i64 r.freq, .int .i64 r.interval, .int .i64 r.count, .int .i64 r.until_, .slice om nm cm, .slice od nd cd, .slice oy ny cy, .slice op np cp, .int .i64 r.start] 28)) ⟨w.heap.size, j, none⟩ := fun j => hb1.cell (by simp); have hz1 : w.heap.size < w1.heap.size := Nat.lt_of_lt_of_le (by simp) hb1.size; have HB1 := Lib.hid (below_call HB.out hb1); clear hb1)
    | (go_at_call 82; ((with_reducible refine (C6.out _ HB1.out).mono ?_)); rintro e w2 ⟨rfl, hb2⟩; have kA2 : ∀ j, World.cell? w2 ⟨w.heap.size, j, none⟩ = World.cell? (w.alloc (.cells #[.int .i64 r.freq, .int .i64 r.interval, .int .i64 r.count, .int .i64 r.until_, .slice om nm cm, .slice od nd cd, .slice oy ny cy, .slice op np cp, .int .i64 r.start] 28)) ⟨w.heap.size, j, none⟩ := fun j => (hb2.cell hz1).trans (kA1 j); have hz2 : w.heap.size < w2.heap.size := Nat.lt_of_lt_of_le hz1 hb2.size; have HB2 := Lib.hid (below_call HB1.out hb2); clear hb2 kA1 hz1)
    | (go_at_call 82; ((with_reducible refine (C7.out _ HB2.out).mono ?_)); rintro e w3 ⟨rfl, hb3⟩; have kA3 : ∀ j, World.cell? w3 ⟨w.heap.size, j, none⟩ = World.cell? (w.alloc (.cells #[.int .i64 r.freq, .int .i64 r.interval, .int .i64 r.count, .int .i64 r.until_, .slice om nm cm, .slice od nd cd, .slice oy ny cy, .slice op np cp, .int .i64 r.start] 28)) ⟨w.heap.size, j, none⟩ := fun j => (hb3.cell hz2).trans (kA2 j); have hz3 : w.heap.size < w3.heap.size := Nat.lt_of_lt_of_le hz2 hb3.size; have HB3 := Lib.hid (below_call HB2.out hb3); clear hb3 kA2 hz2)
    | (go_at_call 83; (first | (with_reducible refine (C9.out _ HB3.out).mono ?_) | (have c9 := C9.out _ HB3.out; simp only [‹r.freq = 2›, ‹nd = 0›] at c9; (with_reducible refine c9.mono ?_))); rintro e w4 ⟨rfl, hb4⟩; have kA4 : ∀ j, World.cell? w4 ⟨w.heap.size, j, none⟩ = World.cell? (w.alloc (.cells #[.int .i64 r.freq, .int .i64 r.interval, .int .i64 r.count, .int .i64 r.until_, .slice om nm cm, .slice od nd cd, .slice oy ny cy, .slice op np cp, .int .i64 r.start] 28)) ⟨w.heap.size, j, none⟩ := fun j => (hb4.cell hz3).trans (kA3 j); have hz4 : w.heap.size < w4.heap.size := Nat.lt_of_lt_of_le hz3 hb4.size; have HB4 := Lib.hid (below_call HB3.out hb4); clear hb4 kA3 hz3)
    | (go_at_call 82; ((with_reducible refine (C10.out _ HB4.out).mono ?_)); rintro e w5 ⟨rfl, hb5⟩; have kA5 : ∀ j, World.cell? w5 ⟨w.heap.size, j, none⟩ = World.cell? (w.alloc (.cells #[.int .i64 r.freq, .int .i64 r.interval, .int .i64 r.count, .int .i64 r.until_, .slice om nm cm, .slice od nd cd, .slice oy ny cy, .slice op np cp, .int .i64 r.start] 28)) ⟨w.heap.size, j, none⟩ := fun j => (hb5.cell hz4).trans (kA4 j); have hz5 : w.heap.size < w5.heap.size := Nat.lt_of_lt_of_le hz4 hb5.size; have HB5 := Lib.hid (below_call HB4.out hb5); clear hb5 kA4 hz4))
  all_goals go_ret
  all_goals refine ⟨ret_dec ?_, by first | exact HB5.out | exact HB4.out | exact HB3.out | exact HB2.out | exact HB1.out | exact HB.out⟩
  all_goals have e1 := LM.out
  all_goals have e2 := LD.out
  all_goals have e3 := LY.out
  all_goals have e4 := LP.out
  all_goals unfold mayR
  all_goals simp only [decide_eq_true_eq, Bool.false_eq_true, false_iff, dec_iff] at *
  all_goals first
    | (rintro ⟨q1, q2, q3, q4, q5, q6, q7, q8, q9, q10, q11, q12, q13⟩; first | omega | contradiction)
    | (constructor <;> intro hh <;> simp_all <;> omega)
    | trace_state

end Go.Proofs.YtechgcjdigpglaaGreat
