/- Days of a rule that rise: rises at DayN. Condition: at most a thousand days. -/
import Derived.Test.YtcleicjgeflbnaaGreatDoorR2
namespace Go.Proofs.YtcleicjgeflbnaaGreatDoor
open Go.RowKit Go.ChangeShapes Go.WideShapes Go.Deep
set_option linter.all false

def dlt (a b : DayND) : Prop := a.n < b.n ∨ a.n = b.n ∧ a.day < b.day
def risesDay (xs : List DayND) : Prop := ∀ (i : Nat) a b, xs[i]? = some a → xs[i + 1]? = some b → dlt a b
def risesDayTo (xs : List DayND) (k : Nat) : Prop := ∀ (i : Nat) a b, i + 1 < k → xs[i]? = some a → xs[i + 1]? = some b → dlt a b

set_option maxHeartbeats 2000000 in
theorem lessD (a b : DayND) (w : World) : Calls Tryz.prog 68 #[.agg #[.int .i64 a.n, .int .i64 a.day], .agg #[.int .i64 b.n, .int .i64 b.day]] w fun e w' => e = .returned (.bool (dec (dlt a b))) ∧ Below w.heap.size w w' := by
  have HB := Lib.hid (show Below w.heap.size w ((w.alloc (.cells #[.int .i64 a.n, .int .i64 a.day] 36)).alloc (.cells #[.int .i64 b.n, .int .i64 b.day] 36)) from ((Below.refl _ _).alloc (Nat.le_refl _) _).alloc (by simp) _)
  by_cases h1 : a.n < b.n
  · have d1 := decide_eq_true h1
    have hy := Lib.hid (show dlt a b from .inl h1)
    clear h1
    go_enter Tryz.func68, Tryz.ntmps68
    go_wp2_with fail
    go_ret
    exact ⟨ret_t hy.out, HB.out⟩
  · have d1 := decide_eq_false h1
    by_cases h2 : a.n = b.n
    · have b2 : (a.n == b.n) = true := by simpa using h2
      by_cases h3 : a.day < b.day
      · have d3 := decide_eq_true h3
        have hy := Lib.hid (show dlt a b from .inr ⟨h2, h3⟩)
        clear h1 h2 h3
        go_enter Tryz.func68, Tryz.ntmps68
        go_wp2_with fail
        go_ret
        exact ⟨ret_t hy.out, HB.out⟩
      · have d3 := decide_eq_false h3
        have hy := Lib.hid (show ¬ dlt a b from fun h => h.elim h1 fun h => h3 h.2)
        clear h1 h2 h3
        go_enter Tryz.func68, Tryz.ntmps68
        go_wp2_with fail
        go_ret
        exact ⟨ret_f hy.out, HB.out⟩
    · have b2 : (a.n == b.n) = false := by simpa using h2
      have hy := Lib.hid (show ¬ dlt a b from fun h => h.elim h1 fun h => h2 h.1)
      clear h1 h2
      go_enter Tryz.func68, Tryz.ntmps68
      go_wp2_with fail
      go_ret
      exact ⟨ret_f hy.out, HB.out⟩

set_option maxHeartbeats 4000000 in
set_option maxRecDepth 100000 in
theorem risesD (o : Option Addr) (n c : Nat) (xs : List DayND) (w : World) (h : Row w 2 rDayN (.slice o n c) xs) (hn : n ≤ 10000) :
    Calls Tryz.prog 67 #[.slice o n c, .func (.func 68) #[] #[]] w fun e w' => e = .returned (.bool (dec (risesDay xs))) ∧ Below w.heap.size w w' := by
  have S := Lib.hid h
  have L := Lib.hid h.len
  clear h
  go_enter Tryz.func67, Tryz.ntmps67
  go_wp2_with fail
  go_loopw [5] (fun b wr => ∃ k : Nat, 1 ≤ k ∧ b = .int .i64 (k : Nat) ∧ Hid (Below w.heap.size w wr) ∧ Hid (risesDayTo xs k)) (fun b _ => n + 1 - (intOf b).toNat)
  case atStart => exact ⟨1, Nat.le_refl _, rfl, Below.refl _ _, fun i a b h => absurd h (by omega)⟩
  case round =>
    obtain ⟨k, hk1, rfl, HB, I⟩ := hrel
    obtain ⟨wl, rfl⟩ : ∃ x, x = wr := ⟨_, rfl⟩
    by_cases hlt : k < n
    · have hlt' : (k : Int) < (n : Int) := by omega
      obtain ⟨j, rfl⟩ : ∃ j, k = j + 1 := ⟨k - 1, by omega⟩
      obtain ⟨x, a1, cs1, hx, rfl, q1, ⟨rfl, _, _⟩, q0, q0'⟩ := S.out.elem HB.out j (by omega)
      have e0 := q0 (by decide)
      have e1 := q0' 1 (by decide) (by decide)
      obtain ⟨y, a2, cs2, hy, ha, q3, ⟨rfl, _, _⟩, q4, q4'⟩ := S.out.elem HB.out (j + 1) (by omega)
      cases ha
      have f0 := q4 (by decide)
      have f1 := q4' 1 (by decide) (by decide)
      simp only [List.getElem?_cons_zero, List.getElem?_cons_succ] at e0 e1 f0 f1
      have HX := Lib.hid (And.intro hx hy)
      have C := Lib.hid (fun W => lessD x y W)
      have hw : wrap64 ((j : Int) + 1 - 1) = (j : Int) := by unfold wrap64; omega
      have hw4 : (IntKind.i64).wrap (j : Int) = (j : Int) := by rw [IntKind.wrap_i64]; omega
      have hjp : (0 : Int) ≤ (j : Int) + 1 := by omega
      have hjn : (j : Int) + 1 < (n : Int) := by omega
      have htn : ((j : Int) + 1).toNat = j + 1 := by omega
      have hj0 : (0 : Int) ≤ (j : Int) := by omega
      have hj1 : (j : Int) < (n : Int) := by omega
      clear q0 q1 q3 q4 q0' q4' hx hy
      by_cases hxy : dlt x y
      · rw [dec_t hxy] at C
        have I2 := Lib.hid (show risesDayTo xs (j + 1 + 1) from fun i a b hi ha hb => by
          by_cases e : i = j
          · subst e
            rw [HX.out.1] at ha; rw [HX.out.2] at hb
            cases ha; cases hb
            exact hxy
          · exact I.out i a b (by omega) ha hb)
        clear hxy
        go_wp2_with fail
        go_still_tail 10, (by kernel_rfl)
        go_wp2_with fail
        (with_reducible refine (C.out _).mono ?_)
        rintro e w1 ⟨rfl, hb1⟩
        have HB2 := Lib.hid (below_call HB.out.drew hb1)
        clear hb1 e0 e1 f0 f1
        go_wp2_with fail
        go_roundw
        case measure => simp [intOf]; omega
        case rel => exact ⟨j + 1 + 1, by omega, by go_num, HB2.out, I2.out⟩
      · rw [dec_f hxy] at C
        have hno := Lib.hid (show ¬ risesDay xs from fun h => hxy (h j x y HX.out.1 HX.out.2))
        clear hxy
        go_wp2_with fail
        go_still_tail 10, (by kernel_rfl)
        go_wp2_with fail
        (with_reducible refine (C.out _).mono ?_)
        rintro e w1 ⟨rfl, hb1⟩
        have HB2 := Lib.hid (below_call HB.out.drew hb1)
        clear hb1 e0 e1 f0 f1
        go_wp2_with fail
        go_ret
        exact ⟨ret_f hno.out, HB2.out⟩
    · go_wp2_with fail
      go_ret
      exact ⟨ret_t fun i a b ha hb => I.out i a b (by have := (List.getElem?_eq_some_iff.1 hb).1; have := L.out; omega) ha hb, HB.out⟩
end Go.Proofs.YtcleicjgeflbnaaGreatDoor
