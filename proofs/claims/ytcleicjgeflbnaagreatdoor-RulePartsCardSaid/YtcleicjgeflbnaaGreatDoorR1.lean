/- Rows of numbers that rise: rule.row and what it calls. Condition: the row has at most a thousand numbers. -/
import Derived.Test.YtcleicjgeflbnaaGreatDoorG2
import Derived.Test.YtcleicjgeflbnaaGreatDoorProg
import Derived.Laws.BytesArg
import Derived.KernelRfl
import Derived.IntWalk
import Derived.OwnWalk
import Derived.Deep.QuietTactic
import Derived.BigQuiet
import Derived.Lib.Hide
import Derived.StillTailTactics
import Derived.Deep.RegionHeld3
import Derived.Deep.DrawnRows
namespace Go.Proofs.YtcleicjgeflbnaaGreatDoor
open Go.RowKit Go.ChangeShapes Go.WideShapes Go.Deep
set_option linter.all false

open Classical in
/-- What a test answers. -/
noncomputable def dec (p : Prop) : Bool := decide p
theorem dec_t {p : Prop} (h : p) : dec p = true := by unfold dec; simp [h]
theorem dec_f {p : Prop} (h : ¬ p) : dec p = false := by unfold dec; simp [h]
theorem dec_iff {p : Prop} : dec p = true ↔ p := by unfold dec; simp
theorem ret_t {p : Prop} (h : p) : Ending.returned (.bool true) = Ending.returned (.bool (dec p)) := by rw [dec_t h]
theorem ret_f {p : Prop} (h : ¬ p) : Ending.returned (.bool false) = Ending.returned (.bool (dec p)) := by rw [dec_f h]
theorem c_t {P : Program} {f : FuncId} {args : Array Value} {w : World} {p : Prop} {Q : World → Prop} (h : Calls P f args w fun e w' => e = .returned (.bool (dec p)) ∧ Q w') (hp : p) : Calls P f args w fun e w' => e = .returned (.bool true) ∧ Q w' := by rw [dec_t hp] at h; exact h
theorem c_f {P : Program} {f : FuncId} {args : Array Value} {w : World} {p : Prop} {Q : World → Prop} (h : Calls P f args w fun e w' => e = .returned (.bool (dec p)) ∧ Q w') (hp : ¬ p) : Calls P f args w fun e w' => e = .returned (.bool false) ∧ Q w' := by rw [dec_f hp] at h; exact h
theorem below_call {w0 w w1 w2 : World} (h1 : Below w0.heap.size w w1) (h2 : Below w1.heap.size w1 w2) (hB : w0.heap.size ≤ w.heap.size := by omega) : Below w0.heap.size w w2 := by
  have := h1.size
  exact h1.trans (h2.mono (by omega))

theorem lessI (a b : Int) (w : World) : Calls Tryz.prog 66 #[.int .i64 a, .int .i64 b] w fun e w' => e = .returned (.bool (decide (a < b))) ∧ w' = w := by
  go_enter Tryz.func66, Tryz.ntmps66
  go_wp2_with fail
  go_ret
  exact ⟨rfl, rfl⟩

def risesTo (xs : List Int) (k : Nat) : Prop := ∀ (i : Nat) a b, i + 1 < k → xs[i]? = some a → xs[i + 1]? = some b → a < b
def rises (xs : List Int) : Prop := ∀ (i : Nat) a b, xs[i]? = some a → xs[i + 1]? = some b → a < b

theorem meas_up (n j : Nat) (h : j + 1 < n) : n + 1 - ((j : Int) + 1 + 1).toNat < n + 1 - (((j + 1 : Nat) : Int)).toNat := by omega

set_option maxHeartbeats 4000000 in
set_option maxRecDepth 100000 in
theorem risesI (o : Option Addr) (n c : Nat) (xs : List Int) (w : World) (h : Row w 1 (rI .i64) (.slice o n c) xs) (hn : n ≤ 10000) :
    Calls Tryz.prog 65 #[.slice o n c, .func (.func 66) #[] #[]] w fun e w' => e = .returned (.bool (dec (rises xs))) ∧ Below w.heap.size w w' := by
  have S := Lib.hid h
  have L := Lib.hid h.len
  have C := Lib.hid (fun a b W => lessI a b W)
  clear h
  go_enter Tryz.func65, Tryz.ntmps65
  go_wp2_with fail
  go_loopw [5] (fun b wr => ∃ k : Nat, 1 ≤ k ∧ b = .int .i64 (k : Nat) ∧ Hid (Below w.heap.size w wr) ∧ Hid (risesTo xs k)) (fun b _ => n + 1 - (intOf b).toNat)
  case atStart => exact ⟨1, Nat.le_refl _, rfl, Below.refl _ _, fun i a b h => absurd h (by omega)⟩
  case round =>
    obtain ⟨k, hk1, rfl, HB, I⟩ := hrel
    obtain ⟨wl, rfl⟩ : ∃ x, x = wr := ⟨_, rfl⟩
    by_cases hlt : k < n
    · have hlt' : (k : Int) < (n : Int) := by omega
      obtain ⟨j, rfl⟩ : ∃ j, k = j + 1 := ⟨k - 1, by omega⟩
      obtain ⟨x, a1, cs1, hx, rfl, q1, ⟨rfl, _⟩, q0, _⟩ := S.out.elem HB.out j (by omega)
      have e0 := q0 (by decide)
      obtain ⟨y, a2, cs2, hy, ha, q3, ⟨rfl, _⟩, q4, _⟩ := S.out.elem HB.out (j + 1) (by omega)
      cases ha
      have e1 := q4 (by decide)
      simp only [List.getElem?_cons_zero, Nat.mul_one] at e0 e1
      have e2 : wl.cell? ⟨a1.block, a1.off + (j + 1), none⟩ = some (.int .i64 y) := by
        have h := e1
        unfold Addr.add at h
        rw [if_neg (by omega)] at h
        exact h
      have HX := Lib.hid (And.intro hx hy)
      have hw : wrap64 ((j : Int) + 1 - 1) = (j : Int) := by unfold wrap64; omega
      have hw2 : wrap64 (((j + 1 : Nat) : Int) - 1) = (j : Int) := by unfold wrap64; omega
      have hw3 : wrap64 (j : Int) = (j : Int) := by unfold wrap64; omega
      have hw4 : (IntKind.i64).wrap (j : Int) = (j : Int) := by rw [IntKind.wrap_i64]; omega
      have hjp : (0 : Int) ≤ (j : Int) + 1 := by omega
      have hjn : (j : Int) + 1 < (n : Int) := by omega
      have htn : ((j : Int) + 1).toNat = j + 1 := by omega
      have hj0 : (0 : Int) ≤ (j : Int) := by omega
      have hj1 : (j : Int) < (n : Int) := by omega
      clear q0 q1 q3 q4 hx hy
      by_cases hxy : x < y
      · have d1 := decide_eq_true hxy
        have I2 := Lib.hid (show risesTo xs (j + 1 + 1) from fun i a b hi ha hb => by
          by_cases e : i = j
          · subst e
            rw [HX.out.1] at ha; rw [HX.out.2] at hb
            cases ha; cases hb
            exact hxy
          · exact I.out i a b (by omega) ha hb)
        clear hxy
        go_wp2_with fail
        go_still_tail 10, (by kernel_rfl)
        go_wp2_with fail
        (with_reducible refine (C.out _ _ _).mono ?_)
        rintro e w1 ⟨rfl, rfl⟩
        go_wp2_with fail
        go_roundw
        case measure => simp [intOf]; omega
        case rel => exact ⟨j + 1 + 1, by omega, by go_num, HB.out.drew, I2.out⟩
      · have d1 := decide_eq_false hxy
        have hno := Lib.hid (show ¬ rises xs from fun h => hxy (h j x y HX.out.1 HX.out.2))
        clear hxy
        go_wp2_with fail
        go_still_tail 10, (by kernel_rfl)
        go_wp2_with fail
        (with_reducible refine (C.out _ _ _).mono ?_)
        rintro e w1 ⟨rfl, rfl⟩
        go_wp2_with fail
        go_ret
        exact ⟨ret_f hno.out, HB.out.drew⟩
    · go_wp2_with fail
      go_ret
      exact ⟨ret_t fun i a b ha hb => I.out i a b (by have := (List.getElem?_eq_some_iff.1 hb).1; have := L.out; omega) ha hb, HB.out⟩
end Go.Proofs.YtcleicjgeflbnaaGreatDoor
