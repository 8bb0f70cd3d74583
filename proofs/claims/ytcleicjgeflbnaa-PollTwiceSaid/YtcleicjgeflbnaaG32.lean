/- The walk of the search for a vote. Conditions: the votes rise, and there are at most a thousand. -/
import Derived.Test.YtcleicjgeflbnaaG31
import Derived.Test.YtcleicjgeflbnaaG16
import Derived.Deep.RegionHeld3
import Derived.Deep.DrawnRows
import Derived.Deep.QuietTactic
import Derived.BigQuiet
namespace Go.Proofs.Ytcleicjgeflbnaa
open Go.RowKit Go.ChangeShapes Go.WideShapes Go.Deep

theorem cmpI_lt (x y : Int) : cmpI x y < 0 ↔ x < y := by unfold cmpI; split <;> (try split) <;> omega
theorem cmpI_eq (x y : Int) : cmpI x y = 0 ↔ x = y := by unfold cmpI; split <;> (try split) <;> omega
theorem cmpV_lt (a b : VoteD) : cmpV a b < 0 ↔ vlt a b := by
  unfold cmpV orI vlt
  have h1 := cmpI_lt a.user b.user
  have h2 := cmpI_eq a.user b.user
  have h3 := cmpI_lt a.slot b.slot
  split
  · rename_i h; rw [h3]; have := h2.1 h; omega
  · rename_i h; rw [h1]
    have : a.user ≠ b.user := fun e => h (h2.2 e)
    omega
theorem cmpV_eq (a b : VoteD) : cmpV a b = 0 ↔ a = b := by
  obtain ⟨u, s⟩ := a
  obtain ⟨u', s'⟩ := b
  simp only [cmpV, orI, VoteD.mk.injEq]
  have h1 := cmpI_eq u u'
  have h2 := cmpI_eq s s'
  split
  · rename_i h; rw [h2]; exact ⟨fun e => ⟨h1.1 h, e⟩, fun e => e.2⟩
  · rename_i h; exact ⟨fun e => absurd e h, fun e => absurd (h1.2 e.1) h⟩
theorem vlt_trans {a b c : VoteD} (h1 : vlt a b) (h2 : vlt b c) : vlt a c := by unfold vlt at *; omega
theorem votes_lt {xs : List VoteD} (h : votesRise xs) : ∀ (d i : Nat) (a b : VoteD), xs[i]? = some a → xs[i + d + 1]? = some b → vlt a b
  | 0, i, a, b, ha, hb => h i a b ha hb
  | d + 1, i, a, b, ha, hb => by
    have hl := (List.getElem?_eq_some_iff.1 hb).1
    have hc : xs[i + d + 1]? = some (xs[i + d + 1]'(by omega)) := List.getElem?_eq_getElem (by omega)
    exact vlt_trans (votes_lt h d i a _ ha hc) (h (i + d + 1) _ b hc hb)
theorem votes_le {xs : List VoteD} (h : votesRise xs) {i j : Nat} (hij : i ≤ j) {a b : VoteD} (ha : xs[i]? = some a) (hb : xs[j]? = some b) : a = b ∨ vlt a b := by
  by_cases e : i = j
  · subst e; rw [ha] at hb; cases hb; exact .inl rfl
  · exact .inr (votes_lt h (j - i - 1) i a b ha (by rw [show i + (j - i - 1) + 1 = j by omega]; exact hb))

/-- Where a vote is among votes, or would be. -/
structure PlaceV (xs : List VoteD) (v : VoteD) (i : Nat) (f : Bool) : Prop where
  le : i ≤ xs.length
  lt : ∀ t p, t < i → xs[t]? = some p → vlt p v
  ge : ∀ t p, i ≤ t → xs[t]? = some p → ¬ vlt p v
  is : f = dec (xs[i]? = some v)

attribute [local go_sem ↓] Go.wp_at_zero Go.wp_at_succ
set_option maxHeartbeats 8000000 in
set_option maxRecDepth 100000 in
theorem searchVotes (o : Option Addr) (n c : Nat) (xs : List VoteD) (v : VoteD) (w : World) (h : Row w 2 rVote (.slice o n c) xs) (hr : votesRise xs) (hn : n ≤ 1000) :
    Calls Try.prog 22 #[.slice o n c, .agg #[.int .u32 v.user, .int .i64 v.slot], .func (.func 23) #[] #[]] w fun e w' => ∃ i f, e = .returned (.tuple #[.int .i64 (i : Nat), .bool f]) ∧ PlaceV xs v i f ∧ Below w.heap.size w w' := by
  have S := Lib.hid h
  have L := Lib.hid h.len
  have HR := Lib.hid hr
  clear h hr
  have P0 := Lib.hid (show (∀ t p, t < 0 → xs[t]? = some p → vlt p v) ∧ (∀ t p, n ≤ t → xs[t]? = some p → ¬ vlt p v) from ⟨fun t p ht => absurd ht (Nat.not_lt_zero _), fun t p ht hp => by have := (List.getElem?_eq_some_iff.1 hp).1; have := L.out; omega⟩)
  have HB0 := Lib.hid (show Below w.heap.size w (w.alloc (.cells #[.int .u32 v.user, .int .i64 v.slot] 68)) from (Below.refl _ _).alloc (Nat.le_refl _) _)
  go_enter Try.func22, Try.ntmps22
  go_wp2_with fail
  go_loopw [9, 10] (fun a b wr => ∃ lo hi : Nat, a = .int .i64 lo ∧ b = .int .i64 hi ∧ lo ≤ hi ∧ hi ≤ n ∧ (∀ j, wr.cell? ⟨w.heap.size, j, none⟩ = World.cell? (w.alloc (.cells #[.int .u32 v.user, .int .i64 v.slot] 68)) ⟨w.heap.size, j, none⟩) ∧ w.heap.size < wr.heap.size ∧ Hid (Below w.heap.size w wr) ∧ Hid ((∀ t p, t < lo → xs[t]? = some p → vlt p v) ∧ (∀ t p, hi ≤ t → xs[t]? = some p → ¬ vlt p v))) (fun a b _ => (intOf b).toNat - (intOf a).toNat)
  case atStart => exact ⟨0, n, rfl, rfl, Nat.zero_le _, Nat.le_refl _, fun _ => rfl, by simp, HB0.out, P0.out⟩
  case round =>
    obtain ⟨lo, hi, rfl, rfl, hlh, hin, kA, hz, HB, I⟩ := hrel
    obtain ⟨wl, rfl⟩ : ∃ x, x = wr := ⟨_, rfl⟩
    by_cases hlt : lo < hi
    · have hlt' : (lo : Int) < (hi : Int) := by omega
      have hidx : ((lo : Int) + (hi : Int)) / 2 < (n : Int) := by omega
      have hidx0 : (0 : Int) ≤ ((lo : Int) + (hi : Int)) / 2 := by omega
      have hidxn : (((lo : Int) + (hi : Int)) / 2).toNat = (lo + hi) / 2 := by omega
      obtain ⟨y, a1, cs1, hx, rfl, q1, ⟨rfl, _, _⟩, q0, q2⟩ := S.out.elem HB.out ((lo + hi) / 2) (by omega)
      have e0 := q0 (by decide)
      have e1 := q2 1 (by decide) (by decide)
      simp only [List.getElem?_cons_zero, List.getElem?_cons_succ] at e0 e1
      have Hx := Lib.hid hx
      have C := Lib.hid (fun (W : World) => vote_any y v W)
      clear q0 q1 q2 hx
      by_cases hyx : vlt y v
      · have hr1 : cmpV y v < 0 := (cmpV_lt y v).2 hyx
        obtain ⟨r, hr⟩ : ∃ r, cmpV y v = r := ⟨_, rfl⟩
        rw [hr] at C hr1
        have dr := decide_eq_true hr1
        have I2 := Lib.hid (show (∀ t p, t < (lo + hi) / 2 + 1 → xs[t]? = some p → vlt p v) ∧ (∀ t p, hi ≤ t → xs[t]? = some p → ¬ vlt p v) from ⟨fun t p ht hp => by
          rcases votes_le HR.out (show t ≤ (lo + hi) / 2 by omega) hp Hx.out with e | h
          · rw [e]; exact hyx
          · exact vlt_trans h hyx, I.out.2⟩)
        clear hr hr1 hyx
        go_wp2_with fail
        go_still_tail 6, (by kernel_rfl)
        go_wp2_with fail
        (with_reducible refine (C.out _).mono ?_)
        rintro e w1 ⟨rfl, hb1⟩
        have kA1 : ∀ j, World.cell? w1 ⟨w.heap.size, j, none⟩ = World.cell? (w.alloc (.cells #[.int .u32 v.user, .int .i64 v.slot] 68)) ⟨w.heap.size, j, none⟩ := fun j => (hb1.cell (show w.heap.size < wl.drew.heap.size from hz)).trans (kA j)
        have hz1 : w.heap.size < w1.heap.size := Nat.lt_of_lt_of_le hz hb1.size
        have HB2 := Lib.hid (below_call HB.out.drew hb1)
        clear hb1 kA e0 e1
        go_wp2_with fail
        go_roundw
        case measure => simp [intOf]; omega
        case rel => exact ⟨(lo + hi) / 2 + 1, hi, by go_num, rfl, by omega, hin, kA1, hz1, HB2.out, I2.out⟩
      · have hr1 : ¬ cmpV y v < 0 := fun e => hyx ((cmpV_lt y v).1 e)
        obtain ⟨r, hr⟩ : ∃ r, cmpV y v = r := ⟨_, rfl⟩
        rw [hr] at C hr1
        have dr := decide_eq_false hr1
        have I2 := Lib.hid (show (∀ t p, t < lo → xs[t]? = some p → vlt p v) ∧ (∀ t p, (lo + hi) / 2 ≤ t → xs[t]? = some p → ¬ vlt p v) from ⟨I.out.1, fun t p ht hp h => by
          rcases votes_le HR.out ht Hx.out hp with e | h'
          · rw [e] at hyx; exact hyx h
          · exact hyx (vlt_trans h' h)⟩)
        clear hr hr1 hyx
        go_wp2_with fail
        go_still_tail 6, (by kernel_rfl)
        go_wp2_with fail
        (with_reducible refine (C.out _).mono ?_)
        rintro e w1 ⟨rfl, hb1⟩
        have kA1 : ∀ j, World.cell? w1 ⟨w.heap.size, j, none⟩ = World.cell? (w.alloc (.cells #[.int .u32 v.user, .int .i64 v.slot] 68)) ⟨w.heap.size, j, none⟩ := fun j => (hb1.cell (show w.heap.size < wl.drew.heap.size from hz)).trans (kA j)
        have hz1 : w.heap.size < w1.heap.size := Nat.lt_of_lt_of_le hz hb1.size
        have HB2 := Lib.hid (below_call HB.out.drew hb1)
        clear hb1 kA e0 e1
        go_wp2_with fail
        go_roundw
        case measure => simp [intOf]; omega
        case rel => exact ⟨lo, (lo + hi) / 2, rfl, by go_num, by omega, by omega, kA1, hz1, HB2.out, I2.out⟩
    · obtain rfl : hi = lo := by omega
      by_cases hn2 : hi < n
      · have hn2' : (hi : Int) < (n : Int) := by omega
        have dn := decide_eq_true hn2'
        obtain ⟨y, a1, cs1, hx, rfl, q1, ⟨rfl, _, _⟩, q0, q2⟩ := S.out.elem HB.out hi hn2
        have e0 := q0 (by decide)
        have e1 := q2 1 (by decide) (by decide)
        simp only [List.getElem?_cons_zero, List.getElem?_cons_succ] at e0 e1
        have Hx := Lib.hid hx
        have C := Lib.hid (fun (W : World) => vote_any y v W)
        clear q0 q1 q2 hx
        go_wp2_with fail
        by_cases hy : y = v
        · have hr1 : cmpV y v = 0 := (cmpV_eq y v).2 hy
          rw [hr1] at C
          have R := Lib.hid (show PlaceV xs v hi true from ⟨by have := L.out; omega, I.out.1, I.out.2, (dec_t (by rw [Hx.out, hy])).symm⟩)
          clear hr1 hy
          have hS0 := And.intro (show ∀ j, wl.drew.cell? ⟨w.heap.size, j, none⟩ = World.cell? (w.alloc (.cells #[.int .u32 v.user, .int .i64 v.slot] 68)) ⟨w.heap.size, j, none⟩ from kA) (And.intro (show wl.drew.cell? (a1.add (hi * 2)) = some (.int .u32 y.user) from e0) (show wl.drew.cell? ⟨(a1.add (hi * 2)).block, (a1.add (hi * 2)).off + 1, none⟩ = some (.int .i64 y.slot) from e1))
          have hzE : (a1.add (hi * 2)).block < wl.drew.heap.size := World.block_lt_of_cell? wl _ e0
          clear kA e0 e1
          go_region_held3 (fun W' => (∀ j, W'.cell? ⟨w.heap.size, j, none⟩ = World.cell? (w.alloc (.cells #[.int .u32 v.user, .int .i64 v.slot] 68)) ⟨w.heap.size, j, none⟩) ∧ W'.cell? (a1.add (hi * 2)) = some (.int .u32 y.user) ∧ W'.cell? ⟨(a1.add (hi * 2)).block, (a1.add (hi * 2)).off + 1, none⟩ = some (.int .i64 y.slot)) (assumption) (first | (go_at_call 23; (with_reducible refine (C.out _).mono ?_); rintro e w' ⟨rfl, hb1⟩; have hS1 := And.intro (fun j => (hb1.cell (p := ⟨w.heap.size, j, none⟩) hz).trans (hS0.1 j)) (And.intro ((hb1.cell (p := a1.add (hi * 2)) hzE).trans hS0.2.1) ((hb1.cell (p := ⟨(a1.add (hi * 2)).block, (a1.add (hi * 2)).off + 1, none⟩) hzE).trans hS0.2.2))))
          have HB2 := Lib.hid (below_call HB.out.drew hb1)
          clear hb1 hS0 hS1
          go_wp2_with fail
          go_ret2
          exact ⟨hi, true, rfl, R.out, HB2.out⟩
        · have hr1 : ¬ cmpV y v = 0 := fun e => hy ((cmpV_eq y v).1 e)
          obtain ⟨r, hr⟩ : ∃ r, cmpV y v = r := ⟨_, rfl⟩
          rw [hr] at C hr1
          have b0 : (r == 0) = false := by simpa using hr1
          have R := Lib.hid (show PlaceV xs v hi false from ⟨by have := L.out; omega, I.out.1, I.out.2, (dec_f (fun e => hy (by rw [Hx.out] at e; cases e; rfl))).symm⟩)
          clear hr hy hr1
          have hS0 := And.intro (show ∀ j, wl.drew.cell? ⟨w.heap.size, j, none⟩ = World.cell? (w.alloc (.cells #[.int .u32 v.user, .int .i64 v.slot] 68)) ⟨w.heap.size, j, none⟩ from kA) (And.intro (show wl.drew.cell? (a1.add (hi * 2)) = some (.int .u32 y.user) from e0) (show wl.drew.cell? ⟨(a1.add (hi * 2)).block, (a1.add (hi * 2)).off + 1, none⟩ = some (.int .i64 y.slot) from e1))
          have hzE : (a1.add (hi * 2)).block < wl.drew.heap.size := World.block_lt_of_cell? wl _ e0
          clear kA e0 e1
          go_region_held3 (fun W' => (∀ j, W'.cell? ⟨w.heap.size, j, none⟩ = World.cell? (w.alloc (.cells #[.int .u32 v.user, .int .i64 v.slot] 68)) ⟨w.heap.size, j, none⟩) ∧ W'.cell? (a1.add (hi * 2)) = some (.int .u32 y.user) ∧ W'.cell? ⟨(a1.add (hi * 2)).block, (a1.add (hi * 2)).off + 1, none⟩ = some (.int .i64 y.slot)) (assumption) (first | (go_at_call 23; (with_reducible refine (C.out _).mono ?_); rintro e w' ⟨rfl, hb1⟩; have hS1 := And.intro (fun j => (hb1.cell (p := ⟨w.heap.size, j, none⟩) hz).trans (hS0.1 j)) (And.intro ((hb1.cell (p := a1.add (hi * 2)) hzE).trans hS0.2.1) ((hb1.cell (p := ⟨(a1.add (hi * 2)).block, (a1.add (hi * 2)).off + 1, none⟩) hzE).trans hS0.2.2))))
          have HB2 := Lib.hid (below_call HB.out.drew hb1)
          clear hb1 hS0 hS1
          go_wp2_with fail
          go_ret2
          exact ⟨hi, false, rfl, R.out, HB2.out⟩
      · obtain rfl : n = hi := by omega
        have R := Lib.hid (show PlaceV xs v n false from ⟨by have := L.out; omega, I.out.1, I.out.2, (dec_f (fun hp => by have := (List.getElem?_eq_some_iff.1 hp).1; have := L.out; omega)).symm⟩)
        have dn : decide ((n : Int) < (n : Int)) = false := by simp
        go_wp2_with fail
        go_quiet (fail)
        go_wp2_with fail
        go_ret2
        exact ⟨n, false, rfl, R.out, below_drewN HB.out _⟩
end Go.Proofs.Ytcleicjgeflbnaa
