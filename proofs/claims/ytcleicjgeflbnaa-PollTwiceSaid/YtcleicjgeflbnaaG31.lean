/- The walks of the search for a vote: cmp.Compare[int], cmp.Or[int], poll.vote, BinarySearchFunc. Conditions: the votes rise, and there are at most a thousand. -/
import Derived.Test.YtcleicjgeflbnaaG23
import Derived.Deep.RegionHeld3
import Derived.Deep.DrawnRows
import Derived.StillTailTactics
namespace Go.Proofs.Ytcleicjgeflbnaa
open Go.RowKit Go.ChangeShapes Go.WideShapes Go.Deep

theorem compareI (x y : Int) (w : World) :
    Calls Try.prog 46 #[.int .i64 x, .int .i64 y] w fun e w' => e = .returned (.int .i64 (cmpI x y)) ∧ w' = w := by
  by_cases h1 : x < y
  · have d1 := decide_eq_true h1
    have R : cmpI x y = -1 := by simp [cmpI, h1]
    rw [R]; clear R
    go_enter Try.func46, Try.ntmps46
    go_wp2
    go_ret
    exact ⟨rfl, rfl⟩
  · have d1 := decide_eq_false h1
    by_cases h2 : y < x
    · have d2 := decide_eq_true h2
      have R : cmpI x y = 1 := by simp [cmpI, h1, h2]
      rw [R]; clear R
      go_enter Try.func46, Try.ntmps46
      go_wp2
      go_ret
      exact ⟨rfl, rfl⟩
    · have d2 := decide_eq_false h2
      have R : cmpI x y = 0 := by simp [cmpI, h1, h2]
      rw [R]; clear R
      go_enter Try.func46, Try.ntmps46
      go_wp2
      go_ret
      exact ⟨rfl, rfl⟩

/-- The first of two numbers that is not nought. -/
def orI (x y : Int) : Int := if x = 0 then y else x

set_option maxHeartbeats 2000000 in
theorem or_two (x y : Int) (g : Nat) (W : World) (f0 : W.cell? ⟨g, 0, none⟩ = some (.int .i64 x)) (f1 : W.cell? ⟨g, 1, none⟩ = some (.int .i64 y)) :
    Calls Try.prog 44 #[.slice (some ⟨g, 0, none⟩) 2 2] W fun e w' => e = .returned (.int .i64 (orI x y)) ∧ w' = W := by
  go_enter Try.func44, Try.ntmps44
  go_wp2_with fail
  go_loopw [8] (fun b wr => ∃ k : Nat, k ≤ 2 ∧ b = .int .i64 k ∧ wr = W ∧ Hid ((0 < k → x = 0) ∧ (1 < k → y = 0))) (fun b _ => 2 - (intOf b).toNat)
  case atStart => exact ⟨0, by decide, rfl, rfl, fun h => absurd h (by decide), fun h => absurd h (by decide)⟩
  case round =>
    obtain ⟨k, hk, rfl, rfl, I⟩ := hrel
    match k, hk with
    | 0, _ =>
      by_cases hx : x = 0
      · have HX := Lib.hid hx
        have I2 := Lib.hid (show (0 < 1 → x = 0) ∧ (1 < 1 → y = 0) from ⟨fun _ => hx, fun h => absurd h (by decide)⟩)
        subst hx
        go_wp2_with fail
        go_roundw
        case measure => simp [intOf]
        case rel => exact ⟨1, by decide, by go_num, by trivial, fun _ => by trivial, fun h => absurd h (by decide)⟩
      · have b1 : (x == 0) = false := by simpa using hx
        have R : orI x y = x := by simp [orI, hx]
        have HR := Lib.hid R
        clear R hx
        go_wp2_with fail
        go_ret
        exact ⟨by rw [HR.out]; rfl, rfl⟩
    | 1, _ =>
      have hx := I.out.1 (by decide)
      by_cases hy : y = 0
      · have I2 := Lib.hid (show (0 < 2 → x = 0) ∧ (1 < 2 → y = 0) from ⟨fun _ => hx, fun _ => hy⟩)
        have HX := Lib.hid hx
        clear hx
        subst hy
        go_wp2_with fail
        go_roundw
        case measure => simp [intOf]
        case rel => exact ⟨2, by decide, by go_num, by trivial, I2.out.1, fun _ => by trivial⟩
      · have b1 : (y == 0) = false := by simpa using hy
        have R : orI x y = y := by simp [orI, hx]
        have HR := Lib.hid R
        clear R hx hy
        go_wp2_with fail
        go_ret
        exact ⟨by rw [HR.out]; rfl, rfl⟩
    | 2, _ =>
      have hx := I.out.1 (by decide)
      have hy := I.out.2 (by decide)
      have R : orI x y = 0 := by simp [orI, hx, hy]
      have HR := Lib.hid R
      clear R hx hy
      go_wp2_with fail
      go_ret
      exact ⟨by rw [HR.out]; rfl, rfl⟩
    | k + 3, h => omega

/-- How two votes stand. -/
def cmpV (a b : VoteD) : Int := orI (cmpI a.user b.user) (cmpI a.slot b.slot)

section
attribute [local go_sem ↓] Go.wp_at_zero Go.wp_at_succ
set_option maxHeartbeats 8000000 in
set_option maxRecDepth 100000 in
theorem vote_any (a b : VoteD) (w : World) :
    Calls Try.prog 23 #[.agg #[.int .u32 a.user, .int .i64 a.slot], .agg #[.int .u32 b.user, .int .i64 b.slot]] w fun e w' => e = .returned (.int .i64 (cmpV a b)) ∧ Below w.heap.size w w' := by
  have C1 := Lib.hid (fun W => compareU a.user b.user W)
  have C2 := Lib.hid (fun W => compareI a.slot b.slot W)
  have C3 := Lib.hid (fun g W h0 h1 => or_two (cmpI a.user b.user) (cmpI a.slot b.slot) g W h0 h1)
  go_enter Try.func23, Try.ntmps23
  go_wp2_with fail
  go_region_held3 (fun W' => W'.cell? ⟨w.heap.size, 0, none⟩ = some (.int .u32 a.user) ∧ W'.cell? ⟨w.heap.size, 1, none⟩ = some (.int .i64 a.slot) ∧ W'.cell? ⟨w.heap.size + 1, 0, none⟩ = some (.int .u32 b.user) ∧ W'.cell? ⟨w.heap.size + 1, 1, none⟩ = some (.int .i64 b.slot)) (go_keep)
    (first | (go_at_call 45; (with_reducible refine (C1.out _).mono ?_); rintro e w' ⟨rfl, rfl⟩) | (go_at_call 46; (with_reducible refine (C2.out _).mono ?_); rintro e w' ⟨rfl, rfl⟩) | (go_at_call 44; refine (C3.out (w.heap.size + 1 + 1) _ (by exact (cell_of_row _ _ 0 _ _ _ (heap_alloc3_new w _ _ _))) (by exact (cell_of_row _ _ 1 _ _ _ (heap_alloc3_new w _ _ _)))).mono ?_; rintro e w' ⟨rfl, rfl⟩))
  go_wp2_with fail
  go_ret
  exact ⟨rfl, ((((Below.refl _ _).alloc (Nat.le_refl _) _).alloc (by simp) _).alloc (by simp; omega) _).drew⟩
end
end Go.Proofs.Ytcleicjgeflbnaa
