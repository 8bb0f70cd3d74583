/- ref10: a number among others; a day, and the next one. Conditions: each theorem's own. ref10: the next day. Conditions: the day is the calendar's, or the one behind it. -/
import Derived.Test.YtechgcjdigpglaaGreatU7p
import Derived.Test.YtechgcjdigpglaaGreatH3
import Derived.Test.YtechgcjdigpglaaGreatK5
import Derived.Test.YtechgcjdigpglaaGreatV15
import Derived.Deep.DeepCutAuto
import Derived.Deep.RegionHeld3
namespace Go.Proofs.YtechgcjdigpglaaGreat
open Go.RowKit Go.ChangeShapes Go.WideShapes Go.Deep
set_option linter.all false

theorem refHas_any (v : Value) (xs : List Int) (x : Int) (w : World) (h : Row w 1 (rI .i64) v xs) (hn : xs.length ≤ 100000000) :
    Calls Tryz.prog 152 #[v, .int .i64 x] w fun e w' => e = .returned (.bool (dec (x ∈ xs))) ∧ w' = w := by
  obtain ⟨o, n, c, rfl, hl, -, -, R⟩ := h.open
  have S := Lib.hid R
  have L := Lib.hid hl
  have hnn : n ≤ 100000000 := by omega
  clear h R hl hn
  go_enter Tryz.func152, Tryz.ntmps152
  go_wp2_with fail
  go_loopw [8] (fun b wr => ∃ k : Nat, k ≤ n ∧ b = .int .i64 (k : Nat) ∧ wr = w ∧ Hid (∀ (i : Nat) z, i < k → xs[i]? = some z → z ≠ x)) (fun b _ => n - (intOf b).toNat)
  case atStart => exact ⟨0, Nat.zero_le _, rfl, rfl, fun i x h => absurd h (Nat.not_lt_zero _)⟩
  case round =>
    obtain ⟨k, hk, rfl, rfl, I⟩ := hrel
    by_cases hlt : k < n
    · have hlt' : (k : Int) < (n : Int) := by omega
      obtain ⟨y, a1, hx, rfl, _, e0⟩ := S.out.intAt (Below.refl _ _) k hlt
      have HX := Lib.hid hx
      clear hx
      by_cases hxy : y = x
      · have b1 : (y == x) = true := by simpa using hxy
        have HY := Lib.hid hxy
        clear hxy
        go_wp2_with fail
        go_ret
        exact ⟨ret_t (by have := List.mem_of_getElem? HX.out; rw [HY.out] at this; exact this), rfl⟩
      · have b1 : (y == x) = false := by simpa using hxy
        have J := Lib.hid (show ∀ (i : Nat) z, i < k + 1 → xs[i]? = some z → z ≠ x from fun i z hi hz => by
          by_cases e : i = k
          · subst e; rw [HX.out] at hz; cases hz; exact hxy
          · exact I.out i z (by omega) hz)
        clear hxy
        go_wp2_with fail
        go_roundw
        case measure => simp [intOf]; omega
        case rel => exact ⟨k + 1, by omega, by go_num, by trivial, J.out⟩
    · obtain rfl : n = k := by omega
      go_wp2_with fail
      go_ret
      exact ⟨ret_f fun hm => by
        obtain ⟨i, hi, hx⟩ := List.getElem_of_mem hm
        exact I.out i _ (by have := L.out; omega) (List.getElem?_eq_getElem hi) hx, rfl⟩

/-- A day as its number, its date, its weekday. -/
def dayV (n : Int) : Array Value := #[.int .i64 n, .int .i64 (dateY n), .int .i64 (dateM n), .int .i64 (dD n), .int .i64 (n % 7)]
theorem day_end : dateY 109938 = 2201 ∧ dateM 109938 = 1 ∧ dD 109938 = 1 ∧ dateY 109937 = 2200 ∧ dateM 109937 = 12 ∧ dD 109937 = 31 ∧ lenM 2200 12 = 31 ∧ dateY 109939 = 2201 ∧ dateM 109939 = 1 ∧ dD 109939 = 2 ∧ lenM 2201 1 = 31 := by decide
theorem day_next (n : Int) (h0 : 0 ≤ n) (h1 : n < 109939) : (dateY (n + 1) = dateY n ∧ dateM (n + 1) = dateM n ∧ dD (n + 1) = dD n + 1 ∧ dD n < lenM (dateY n) (dateM n)) ∨
    (dD n = lenM (dateY n) (dateM n) ∧ dD (n + 1) = 1 ∧ (dateM n < 12 ∧ dateM (n + 1) = dateM n + 1 ∧ dateY (n + 1) = dateY n ∨ dateM n = 12 ∧ dateM (n + 1) = 1 ∧ dateY (n + 1) = dateY n + 1)) := by
  obtain ⟨a, b, c, d, e, f, g, k, l, m, q⟩ := day_end
  by_cases h : n + 1 < 109938
  · exact date_next n h0 h
  · by_cases h2 : n = 109937
    · subst h2
      rw [show (109937 : Int) + 1 = 109938 from rfl, a, b, c, d, e, f, g]
      exact .inr ⟨rfl, rfl, .inr ⟨rfl, rfl, rfl⟩⟩
    · obtain rfl : n = 109938 := by omega
      rw [show (109938 : Int) + 1 = 109939 from rfl, a, b, c, k, l, m, q]
      exact .inl ⟨rfl, rfl, rfl, by decide⟩
theorem day_bd (n : Int) (h0 : 0 ≤ n) (h1 : n < 109939) : 1900 ≤ dateY n ∧ dateY n ≤ 2201 ∧ 1 ≤ dateM n ∧ dateM n ≤ 12 ∧ 1 ≤ dD n ∧ dD n ≤ 31 := by
  by_cases h : n < 109938
  · obtain ⟨⟨v1, v2, v3, v4⟩, -, m1, m2⟩ := date_valid n h0 h
    have := lenM_bd (dateY n) (dateM n)
    omega
  · obtain rfl : n = 109938 := by omega
    obtain ⟨a, b, c, _⟩ := day_end
    rw [a, b, c]; decide
theorem ret_day {n y m d k n' y' m' d' k' : Int} (h : n = n' ∧ y = y' ∧ m = m' ∧ d = d' ∧ k = k') : Ending.returned (.agg #[.int .i64 n, .int .i64 y, .int .i64 m, .int .i64 d, .int .i64 k]) = Ending.returned (.agg #[.int .i64 n', .int .i64 y', .int .i64 m', .int .i64 d', .int .i64 k']) := by
  obtain ⟨rfl, rfl, rfl, rfl, rfl⟩ := h; rfl

set_option maxHeartbeats 4000000 in
theorem of_any (n : Int) (h0 : 0 ≤ n) (h1 : n < 109938) (w : World) :
    Calls Tryz.prog 98 #[.int .i64 n] w fun e w' => e = .returned (.agg (dayV n)) ∧ Below w.heap.size w w' := by
  have b0 := belowA (.cells #[.int .i64 0, .int .i64 0, .int .i64 0, .int .i64 0, .int .i64 0] 133) (Below.refl w.heap.size w)
  have C := Lib.hid (refDate_yes n h0 h1 (w.alloc (.cells #[.int .i64 0, .int .i64 0, .int .i64 0, .int .i64 0, .int .i64 0] 133)))
  have X0 := Lib.hid (BxM.new w #[.int .i64 0, .int .i64 0, .int .i64 0, .int .i64 0, .int .i64 0] 133)
  have B0 := Lib.hid b0
  have ht : n.tmod 7 = n % 7 := Int.tmod_eq_emod_of_nonneg h0
  clear b0
  go_enter Tryz.func98, Tryz.ntmps98
  go_wp2_with fail
  (with_reducible refine C.out.mono ?_)
  rintro q w1 ⟨rfl, hb1⟩
  have X1 := Lib.hid (X0.out.below hb1)
  have B1 := Lib.hid (B0.out.trans (hb1.mono B0.out.size))
  have k1 := X1.out.cell
  have f1 := X1.out.frz
  have l1 : w.heap.size < w1.heap.size := X1.out.lt
  clear hb1
  go_wp2_with fail
  refine bodyPost_ret (v := .agg (dayV n)) ?_ rfl ⟨rfl, ?_⟩
  · simp [results, Tryz.results98, go_sem, k1, l1, dayV]
  · repeat (first | with_reducible exact B1.out | with_reducible refine Below.alloc ?_ (by have := B1.out.size; simp; omega) _ | with_reducible refine Below.setCell ?_ (by simp) _)

end Go.Proofs.YtechgcjdigpglaaGreat
namespace Go.Proofs.YtechgcjdigpglaaGreat
open Go.RowKit Go.ChangeShapes Go.WideShapes Go.Deep
set_option linter.all false

theorem below_set5 {B : Nat} {w W : World} {b : Nat} (h : Below B w W) (hb : B ≤ b) (v0 v1 v2 v3 v4 : Value) : Below B w (((((W.setCell ⟨b, 0, none⟩ v0).setCell ⟨b, 1, none⟩ v1).setCell ⟨b, 2, none⟩ v2).setCell ⟨b, 3, none⟩ v3).setCell ⟨b, 4, none⟩ v4) :=
  ((((h.setCell hb v0).setCell hb v1).setCell hb v2).setCell hb v3).setCell hb v4
theorem below_set1 {B : Nat} {w W : World} {b : Nat} (h : Below B w W) (hb : B ≤ b) (j : Nat) (v : Value) : Below B w (W.setCell ⟨b, j, none⟩ v) := h.setCell hb v
set_option maxHeartbeats 1000000 in
set_option maxRecDepth 100000 in
theorem next_any (n : Int) (h0 : 0 ≤ n) (h1 : n < 109939) (w : World) :
    Calls Tryz.prog 100 #[.agg (dayV n)] w fun e w' => e = .returned (.agg (dayV (n + 1))) ∧ Below w.heap.size w w' := by
  obtain ⟨y0, y1, m0, m1, d0, d1⟩ := day_bd n h0 h1
  have hN := day_next n h0 h1
  have hlm := lenM_bd (dateY n) (dateM n)
  have CL := Lib.hid (fun W => refLength_any (dateY n) (dateM n) (by omega) (by omega) m0 m1 W)
  obtain ⟨Y, hY⟩ : ∃ Y, Y = dateY n := ⟨_, rfl⟩
  obtain ⟨M, hM⟩ : ∃ M, M = dateM n := ⟨_, rfl⟩
  obtain ⟨D, hD⟩ : ∃ D, D = dD n := ⟨_, rfl⟩
  obtain ⟨L, hL⟩ : ∃ L, L = lenM Y M := ⟨_, rfl⟩
  obtain ⟨W7, hW⟩ : ∃ W7, W7 = n % 7 := ⟨_, rfl⟩
  rw [← hY, ← hM] at CL hN hlm
  rw [← hL] at CL hN hlm
  rw [← hD] at hN
  rw [← hY] at y0 y1
  rw [← hM] at m0 m1
  rw [← hD] at d0 d1
  have HW2 := Lib.hid (show (W7 + 1).tmod 7 = (n + 1) % 7 by rw [Int.tmod_eq_emod_of_nonneg (by omega)]; omega)
  have hw7 : 0 ≤ W7 ∧ W7 ≤ 6 := by omega
  obtain ⟨w70, w71⟩ := hw7
  obtain ⟨hl0, hl1⟩ := hlm
  rw [show dayV n = #[.int .i64 n, .int .i64 Y, .int .i64 M, .int .i64 D, .int .i64 W7] by unfold dayV; rw [hY, hM, hD, hW]]
  clear hY hM hD hL hW
  obtain ⟨W8, hW8⟩ : ∃ W8, W8 = (W7 + 1).tmod 7 := ⟨_, rfl⟩
  have hw8 : (W7 + 1).tmod 7 = W8 := hW8.symm
  have HW3 := Lib.hid (show W8 = (n + 1) % 7 by rw [hW8]; exact HW2.out)
  have hw9 : wrap64 W8 = W8 := by have := HW3.out; unfold wrap64; omega
  clear hW8 HW2
  have x1 := BxM.new w #[.int .i64 n, .int .i64 Y, .int .i64 M, .int .i64 D, .int .i64 W7] 133
  have x2 := BxM.new (w.alloc (.cells #[.int .i64 n, .int .i64 Y, .int .i64 M, .int .i64 D, .int .i64 W7] 133)) #[.int .i64 0, .int .i64 0, .int .i64 0, .int .i64 0, .int .i64 0] 133
  have x3 := BxM.new ((w.alloc (.cells #[.int .i64 n, .int .i64 Y, .int .i64 M, .int .i64 D, .int .i64 W7] 133)).alloc (.cells #[.int .i64 0, .int .i64 0, .int .i64 0, .int .i64 0, .int .i64 0] 133)) #[.int .i64 Y, .int .i64 M, .int .i64 (D + 1)] 131
  rw [show (w.alloc (.cells #[.int .i64 n, .int .i64 Y, .int .i64 M, .int .i64 D, .int .i64 W7] 133)).heap.size = w.heap.size + 1 by simp] at x2
  rw [show ((w.alloc (.cells #[.int .i64 n, .int .i64 Y, .int .i64 M, .int .i64 D, .int .i64 W7] 133)).alloc (.cells #[.int .i64 0, .int .i64 0, .int .i64 0, .int .i64 0, .int .i64 0] 133)).heap.size = w.heap.size + 1 + 1 by simp] at x3
  have X1 := Lib.hid ((x1.alloc (.cells #[.int .i64 0, .int .i64 0, .int .i64 0, .int .i64 0, .int .i64 0] 133)).alloc (.cells #[.int .i64 Y, .int .i64 M, .int .i64 (D + 1)] 131))
  have X2 := Lib.hid (x2.alloc (.cells #[.int .i64 Y, .int .i64 M, .int .i64 (D + 1)] 131))
  have X3 := Lib.hid x3
  clear x1 x2 x3
  have v1 : wrap64 (D + 1) = D + 1 := by unfold wrap64; omega
  have v2 : wrap64 (M + 1) = M + 1 := by unfold wrap64; omega
  have v3 : wrap64 (Y + 1) = Y + 1 := by unfold wrap64; omega
  have v4 : wrap64 (n + 1) = n + 1 := by unfold wrap64; omega
  have v5 : wrap64 (W7 + 1) = W7 + 1 := by unfold wrap64; omega
  have B0 := Lib.hid (belowA (.cells #[.int .i64 Y, .int .i64 M, .int .i64 (D + 1)] 131) (belowA (.cells #[.int .i64 0, .int .i64 0, .int .i64 0, .int .i64 0, .int .i64 0] 133) (belowA (.cells #[.int .i64 n, .int .i64 Y, .int .i64 M, .int .i64 D, .int .i64 W7] 133) (Below.refl w.heap.size w))))
  go_enter Tryz.func100, Tryz.ntmps100
  go_upto_region 3 with fail
  rcases hN with ⟨n1, n2, n3, n4⟩ | ⟨n1, n2, ⟨n3, n4, n5⟩ | ⟨n3, n4, n5⟩⟩
  · have c1 : decide (L < D + 1) = false := decide_eq_false (by omega)
    have c2 : decide (12 < M) = false := decide_eq_false (by omega)
    have HR := Lib.hid (And.intro n1 (And.intro n2 n3))
    clear n1 n2 n3 n4
    refine wp_region_held_drew (S := (fun W' => ∀ j, W'.cell? ⟨w.heap.size + 1 + 1, j, none⟩ = (#[.int .i64 Y, .int .i64 M, .int .i64 (D + 1)] : Array Value)[j]?)) (by kernel_rfl) (X3.out.drew.cell) (fun hHeld => ?_)
    simp only [List.size_toArray, List.length_cons, List.length_nil, Nat.reduceAdd, Array.replicate_succ, Array.replicate_zero, List.push_toArray, List.nil_append, List.cons_append]
    refine wpAnyH_take (i := 0) (oi := ⟨some 10, _, _, _, _, _⟩) (v := ?_) rfl (by kernel_rfl) (by kernel_rfl) (by kernel_rfl) (fun _ _ _ h => h) (Or.inl ⟨by kernel_rfl, ?_⟩) (by assumption) ?_
    rotate_left
    · intro w hSw; (try dsimp only at hSw); go_simp; try with_reducible rfl
    try simp only [Act.put, List.setIfInBounds_toArray, List.set_cons_zero, List.set_cons_succ]
    refine wpAnyH_take (i := 1) (oi := ⟨some 11, _, _, _, _, _⟩) (v := ?_) rfl (by kernel_rfl) (by kernel_rfl) (by kernel_rfl) (fun _ _ _ h => h) (Or.inl ⟨by kernel_rfl, ?_⟩) (by assumption) ?_
    rotate_left
    · intro w hSw; (try dsimp only at hSw); go_simp; try with_reducible rfl
    try simp only [Act.put, List.setIfInBounds_toArray, List.set_cons_zero, List.set_cons_succ]
    refine wpAnyH_take (i := 2) (oi := ⟨some 12, _, _, _, _, _⟩) (v := ?_) rfl (by kernel_rfl) (by kernel_rfl) (by kernel_rfl) (fun _ _ _ h => h) (Or.inl ⟨by kernel_rfl, ?_⟩) (by assumption) ?_
    rotate_left
    · intro w hSw; (try dsimp only at hSw); go_simp; try with_reducible rfl
    try simp only [Act.put, List.setIfInBounds_toArray, List.set_cons_zero, List.set_cons_succ]
    refine wpAnyH_take (i := 3) (oi := ⟨some 13, _, _, _, _, _⟩) (v := ?_) rfl (by kernel_rfl) (by kernel_rfl) (by kernel_rfl) (fun _ _ _ h => h) (Or.inl ⟨by kernel_rfl, ?_⟩) (by assumption) ?_
    rotate_left
    · intro w hSw; (try dsimp only at hSw); go_simp; try with_reducible rfl
    try simp only [Act.put, List.setIfInBounds_toArray, List.set_cons_zero, List.set_cons_succ]
    refine wpAnyH_take (i := 4) (oi := ⟨some 14, _, _, _, _, _⟩) (v := ?_) rfl (by kernel_rfl) (by kernel_rfl) (by kernel_rfl) (fun _ _ _ h => h) (Or.inl ⟨by kernel_rfl, ?_⟩) (by assumption) ?_
    rotate_left
    · intro w hSw; (try dsimp only at hSw); go_simp; try with_reducible rfl
    try simp only [Act.put, List.setIfInBounds_toArray, List.set_cons_zero, List.set_cons_succ]
    refine wpAnyH_take (i := 5) (oi := ⟨some 15, _, _, _, _, _⟩) (v := ?_) rfl (by kernel_rfl) (by kernel_rfl) (by kernel_rfl) (fun _ _ _ h => h) (Or.inl ⟨by kernel_rfl, ?_⟩) (by assumption) ?_
    rotate_left
    · intro w hSw; (try dsimp only at hSw); go_simp; try with_reducible rfl
    try simp only [Act.put, List.setIfInBounds_toArray, List.set_cons_zero, List.set_cons_succ]
    refine wpAnyH_ready (rs := [6]) (by kernel_rfl) (by simp) ?_
    refine AllReadyH.cons rfl (fun K hK => ?_) AllReadyH.nil
    have HK := Lib.hid hK
    go_simp
    (with_reducible refine (CL.out _).mono ?_); rintro q w1 ⟨rfl, hb1⟩; have Y1 := Lib.hid (X1.out.drew.below hb1); have Y2 := Lib.hid (X2.out.drew.below hb1); have Y3 := Lib.hid (X3.out.drew.below hb1); have HB1 := Lib.hid (B0.out.drew.trans (hb1.mono B0.out.drew.size)); clear hb1
    go_simp
    refine HK.out _ _ Y3.out.cell (fun hHeld => ?_)
    clear HK hK K
    try simp only [Act.put, List.setIfInBounds_toArray, List.set_cons_zero, List.set_cons_succ]
    refine wpAnyH_take (i := 7) (oi := ⟨some 17, _, _, _, _, _⟩) (v := ?_) rfl (by kernel_rfl) (by kernel_rfl) (by kernel_rfl) (fun _ _ _ h => h) (Or.inl ⟨by kernel_rfl, ?_⟩) (by assumption) ?_
    rotate_left
    · intro w hSw; (try dsimp only at hSw); go_simp; try with_reducible rfl
    try simp only [Act.put, List.setIfInBounds_toArray, List.set_cons_zero, List.set_cons_succ]
    refine wpAnyH_done (by kernel_rfl) ?_ _
    skip
    have k1 := Y1.out.cell
    have k2 := Y2.out.cell
    have k3 := Y3.out.cell
    have f2 := Y2.out.frz
    have f3 := Y3.out.frz
    have l1 := Y1.out.lt
    have l2 := Y2.out.lt
    have l3 := Y3.out.lt
    go_wp2_with fail
    refine bodyPost_ret (v := .agg #[.int .i64 (n + 1), .int .i64 Y, .int .i64 M, .int .i64 (D + 1), .int .i64 W8]) ?_ rfl ⟨ret_day ⟨rfl, HR.out.1.symm, HR.out.2.1.symm, HR.out.2.2.symm, HW3.out⟩, ?_⟩
    · simp [results, Tryz.results100, go_sem, k1, k2, k3, l1, l2, l3]
    · exact below_set5 HB1.out (Nat.le_succ _) _ _ _ _ _
  · have c1 : decide (L < D + 1) = true := decide_eq_true (by omega)
    have c2 : decide (12 < M + 1) = false := decide_eq_false (by omega)
    have HR := Lib.hid (And.intro n5 (And.intro n4 n2))
    clear n1 n2 n3 n4 n5
    refine wp_region_held_drew (S := (fun W' => ∀ j, W'.cell? ⟨w.heap.size + 1 + 1, j, none⟩ = (#[.int .i64 Y, .int .i64 M, .int .i64 (D + 1)] : Array Value)[j]?)) (by kernel_rfl) (X3.out.drew.cell) (fun hHeld => ?_)
    simp only [List.size_toArray, List.length_cons, List.length_nil, Nat.reduceAdd, Array.replicate_succ, Array.replicate_zero, List.push_toArray, List.nil_append, List.cons_append]
    refine wpAnyH_take (i := 0) (oi := ⟨some 10, _, _, _, _, _⟩) (v := ?_) rfl (by kernel_rfl) (by kernel_rfl) (by kernel_rfl) (fun _ _ _ h => h) (Or.inl ⟨by kernel_rfl, ?_⟩) (by assumption) ?_
    rotate_left
    · intro w hSw; (try dsimp only at hSw); go_simp; try with_reducible rfl
    try simp only [Act.put, List.setIfInBounds_toArray, List.set_cons_zero, List.set_cons_succ]
    refine wpAnyH_take (i := 1) (oi := ⟨some 11, _, _, _, _, _⟩) (v := ?_) rfl (by kernel_rfl) (by kernel_rfl) (by kernel_rfl) (fun _ _ _ h => h) (Or.inl ⟨by kernel_rfl, ?_⟩) (by assumption) ?_
    rotate_left
    · intro w hSw; (try dsimp only at hSw); go_simp; try with_reducible rfl
    try simp only [Act.put, List.setIfInBounds_toArray, List.set_cons_zero, List.set_cons_succ]
    refine wpAnyH_take (i := 2) (oi := ⟨some 12, _, _, _, _, _⟩) (v := ?_) rfl (by kernel_rfl) (by kernel_rfl) (by kernel_rfl) (fun _ _ _ h => h) (Or.inl ⟨by kernel_rfl, ?_⟩) (by assumption) ?_
    rotate_left
    · intro w hSw; (try dsimp only at hSw); go_simp; try with_reducible rfl
    try simp only [Act.put, List.setIfInBounds_toArray, List.set_cons_zero, List.set_cons_succ]
    refine wpAnyH_take (i := 3) (oi := ⟨some 13, _, _, _, _, _⟩) (v := ?_) rfl (by kernel_rfl) (by kernel_rfl) (by kernel_rfl) (fun _ _ _ h => h) (Or.inl ⟨by kernel_rfl, ?_⟩) (by assumption) ?_
    rotate_left
    · intro w hSw; (try dsimp only at hSw); go_simp; try with_reducible rfl
    try simp only [Act.put, List.setIfInBounds_toArray, List.set_cons_zero, List.set_cons_succ]
    refine wpAnyH_take (i := 4) (oi := ⟨some 14, _, _, _, _, _⟩) (v := ?_) rfl (by kernel_rfl) (by kernel_rfl) (by kernel_rfl) (fun _ _ _ h => h) (Or.inl ⟨by kernel_rfl, ?_⟩) (by assumption) ?_
    rotate_left
    · intro w hSw; (try dsimp only at hSw); go_simp; try with_reducible rfl
    try simp only [Act.put, List.setIfInBounds_toArray, List.set_cons_zero, List.set_cons_succ]
    refine wpAnyH_take (i := 5) (oi := ⟨some 15, _, _, _, _, _⟩) (v := ?_) rfl (by kernel_rfl) (by kernel_rfl) (by kernel_rfl) (fun _ _ _ h => h) (Or.inl ⟨by kernel_rfl, ?_⟩) (by assumption) ?_
    rotate_left
    · intro w hSw; (try dsimp only at hSw); go_simp; try with_reducible rfl
    try simp only [Act.put, List.setIfInBounds_toArray, List.set_cons_zero, List.set_cons_succ]
    refine wpAnyH_ready (rs := [6]) (by kernel_rfl) (by simp) ?_
    refine AllReadyH.cons rfl (fun K hK => ?_) AllReadyH.nil
    have HK := Lib.hid hK
    go_simp
    (with_reducible refine (CL.out _).mono ?_); rintro q w1 ⟨rfl, hb1⟩; have Y1 := Lib.hid (X1.out.drew.below hb1); have Y2 := Lib.hid (X2.out.drew.below hb1); have Y3 := Lib.hid (X3.out.drew.below hb1); have HB1 := Lib.hid (B0.out.drew.trans (hb1.mono B0.out.drew.size)); clear hb1
    go_simp
    refine HK.out _ _ Y3.out.cell (fun hHeld => ?_)
    clear HK hK K
    try simp only [Act.put, List.setIfInBounds_toArray, List.set_cons_zero, List.set_cons_succ]
    refine wpAnyH_take (i := 7) (oi := ⟨some 17, _, _, _, _, _⟩) (v := ?_) rfl (by kernel_rfl) (by kernel_rfl) (by kernel_rfl) (fun _ _ _ h => h) (Or.inl ⟨by kernel_rfl, ?_⟩) (by assumption) ?_
    rotate_left
    · intro w hSw; (try dsimp only at hSw); go_simp; try with_reducible rfl
    try simp only [Act.put, List.setIfInBounds_toArray, List.set_cons_zero, List.set_cons_succ]
    refine wpAnyH_done (by kernel_rfl) ?_ _
    skip
    have k1 := Y1.out.cell
    have k2 := Y2.out.cell
    have k3 := Y3.out.cell
    have f2 := Y2.out.frz
    have f3 := Y3.out.frz
    have l1 := Y1.out.lt
    have l2 := Y2.out.lt
    have l3 := Y3.out.lt
    go_upto_if 17 with fail
    go_cut [] (fun W => Hid (Below w.heap.size w W) ∧ Hid (BxM w.heap.size #[.int .i64 n, .int .i64 Y, .int .i64 M, .int .i64 D, .int .i64 W7] 133 W) ∧ Hid (BxM (w.heap.size + 1) #[.int .i64 0, .int .i64 0, .int .i64 0, .int .i64 0, .int .i64 0] 133 W) ∧ Hid (BxM (w.heap.size + 1 + 1) #[.int .i64 Y, .int .i64 (M + 1), .int .i64 1] 131 W))
    case first =>
      go_wp2_with fail
      go_meet
      exact ⟨below_set1 (below_set1 HB1.out (show w.heap.size ≤ w.heap.size + 1 + 1 by omega) _ _) (show w.heap.size ≤ w.heap.size + 1 + 1 by omega) _ _, (Y1.out.other (by show w.heap.size ≠ w.heap.size + 1 + 1; omega) _).other (by show w.heap.size ≠ w.heap.size + 1 + 1; omega) _, (Y2.out.other (by show w.heap.size + 1 ≠ w.heap.size + 1 + 1; omega) _).other (by show w.heap.size + 1 ≠ w.heap.size + 1 + 1; omega) _, (Y3.out.set 2 _).set 1 _⟩
    case rest =>
    clear k1 k2 k3 f2 f3 l1 l2 l3 Y1 Y2 Y3 HB1
    obtain ⟨HB1, Y1, Y2, Y3⟩ := hcut
    have k1 := Y1.out.cell
    have k2 := Y2.out.cell
    have k3 := Y3.out.cell
    have f2 := Y2.out.frz
    have f3 := Y3.out.frz
    have l1 := Y1.out.lt
    have l2 := Y2.out.lt
    have l3 := Y3.out.lt
    go_wp2_with fail
    refine bodyPost_ret (v := .agg #[.int .i64 (n + 1), .int .i64 Y, .int .i64 (M + 1), .int .i64 1, .int .i64 W8]) ?_ rfl ⟨ret_day ⟨rfl, HR.out.1.symm, HR.out.2.1.symm, HR.out.2.2.symm, HW3.out⟩, ?_⟩
    · simp [results, Tryz.results100, go_sem, k1, k2, k3, l1, l2, l3]
    · exact below_set5 HB1.out (Nat.le_succ _) _ _ _ _ _
  · have c1 : decide (L < D + 1) = true := decide_eq_true (by omega)
    have c2 : decide (12 < M + 1) = true := decide_eq_true (by omega)
    have HR := Lib.hid (And.intro n5 (And.intro n4 n2))
    clear n1 n2 n3 n4 n5
    refine wp_region_held_drew (S := (fun W' => ∀ j, W'.cell? ⟨w.heap.size + 1 + 1, j, none⟩ = (#[.int .i64 Y, .int .i64 M, .int .i64 (D + 1)] : Array Value)[j]?)) (by kernel_rfl) (X3.out.drew.cell) (fun hHeld => ?_)
    simp only [List.size_toArray, List.length_cons, List.length_nil, Nat.reduceAdd, Array.replicate_succ, Array.replicate_zero, List.push_toArray, List.nil_append, List.cons_append]
    refine wpAnyH_take (i := 0) (oi := ⟨some 10, _, _, _, _, _⟩) (v := ?_) rfl (by kernel_rfl) (by kernel_rfl) (by kernel_rfl) (fun _ _ _ h => h) (Or.inl ⟨by kernel_rfl, ?_⟩) (by assumption) ?_
    rotate_left
    · intro w hSw; (try dsimp only at hSw); go_simp; try with_reducible rfl
    try simp only [Act.put, List.setIfInBounds_toArray, List.set_cons_zero, List.set_cons_succ]
    refine wpAnyH_take (i := 1) (oi := ⟨some 11, _, _, _, _, _⟩) (v := ?_) rfl (by kernel_rfl) (by kernel_rfl) (by kernel_rfl) (fun _ _ _ h => h) (Or.inl ⟨by kernel_rfl, ?_⟩) (by assumption) ?_
    rotate_left
    · intro w hSw; (try dsimp only at hSw); go_simp; try with_reducible rfl
    try simp only [Act.put, List.setIfInBounds_toArray, List.set_cons_zero, List.set_cons_succ]
    refine wpAnyH_take (i := 2) (oi := ⟨some 12, _, _, _, _, _⟩) (v := ?_) rfl (by kernel_rfl) (by kernel_rfl) (by kernel_rfl) (fun _ _ _ h => h) (Or.inl ⟨by kernel_rfl, ?_⟩) (by assumption) ?_
    rotate_left
    · intro w hSw; (try dsimp only at hSw); go_simp; try with_reducible rfl
    try simp only [Act.put, List.setIfInBounds_toArray, List.set_cons_zero, List.set_cons_succ]
    refine wpAnyH_take (i := 3) (oi := ⟨some 13, _, _, _, _, _⟩) (v := ?_) rfl (by kernel_rfl) (by kernel_rfl) (by kernel_rfl) (fun _ _ _ h => h) (Or.inl ⟨by kernel_rfl, ?_⟩) (by assumption) ?_
    rotate_left
    · intro w hSw; (try dsimp only at hSw); go_simp; try with_reducible rfl
    try simp only [Act.put, List.setIfInBounds_toArray, List.set_cons_zero, List.set_cons_succ]
    refine wpAnyH_take (i := 4) (oi := ⟨some 14, _, _, _, _, _⟩) (v := ?_) rfl (by kernel_rfl) (by kernel_rfl) (by kernel_rfl) (fun _ _ _ h => h) (Or.inl ⟨by kernel_rfl, ?_⟩) (by assumption) ?_
    rotate_left
    · intro w hSw; (try dsimp only at hSw); go_simp; try with_reducible rfl
    try simp only [Act.put, List.setIfInBounds_toArray, List.set_cons_zero, List.set_cons_succ]
    refine wpAnyH_take (i := 5) (oi := ⟨some 15, _, _, _, _, _⟩) (v := ?_) rfl (by kernel_rfl) (by kernel_rfl) (by kernel_rfl) (fun _ _ _ h => h) (Or.inl ⟨by kernel_rfl, ?_⟩) (by assumption) ?_
    rotate_left
    · intro w hSw; (try dsimp only at hSw); go_simp; try with_reducible rfl
    try simp only [Act.put, List.setIfInBounds_toArray, List.set_cons_zero, List.set_cons_succ]
    refine wpAnyH_ready (rs := [6]) (by kernel_rfl) (by simp) ?_
    refine AllReadyH.cons rfl (fun K hK => ?_) AllReadyH.nil
    have HK := Lib.hid hK
    go_simp
    (with_reducible refine (CL.out _).mono ?_); rintro q w1 ⟨rfl, hb1⟩; have Y1 := Lib.hid (X1.out.drew.below hb1); have Y2 := Lib.hid (X2.out.drew.below hb1); have Y3 := Lib.hid (X3.out.drew.below hb1); have HB1 := Lib.hid (B0.out.drew.trans (hb1.mono B0.out.drew.size)); clear hb1
    go_simp
    refine HK.out _ _ Y3.out.cell (fun hHeld => ?_)
    clear HK hK K
    try simp only [Act.put, List.setIfInBounds_toArray, List.set_cons_zero, List.set_cons_succ]
    refine wpAnyH_take (i := 7) (oi := ⟨some 17, _, _, _, _, _⟩) (v := ?_) rfl (by kernel_rfl) (by kernel_rfl) (by kernel_rfl) (fun _ _ _ h => h) (Or.inl ⟨by kernel_rfl, ?_⟩) (by assumption) ?_
    rotate_left
    · intro w hSw; (try dsimp only at hSw); go_simp; try with_reducible rfl
    try simp only [Act.put, List.setIfInBounds_toArray, List.set_cons_zero, List.set_cons_succ]
    refine wpAnyH_done (by kernel_rfl) ?_ _
    skip
    have k1 := Y1.out.cell
    have k2 := Y2.out.cell
    have k3 := Y3.out.cell
    have f2 := Y2.out.frz
    have f3 := Y3.out.frz
    have l1 := Y1.out.lt
    have l2 := Y2.out.lt
    have l3 := Y3.out.lt
    go_upto_if 17 with fail
    go_cut [] (fun W => Hid (Below w.heap.size w W) ∧ Hid (BxM w.heap.size #[.int .i64 n, .int .i64 Y, .int .i64 M, .int .i64 D, .int .i64 W7] 133 W) ∧ Hid (BxM (w.heap.size + 1) #[.int .i64 0, .int .i64 0, .int .i64 0, .int .i64 0, .int .i64 0] 133 W) ∧ Hid (BxM (w.heap.size + 1 + 1) #[.int .i64 Y, .int .i64 (M + 1), .int .i64 1] 131 W))
    case first =>
      go_wp2_with fail
      go_meet
      exact ⟨below_set1 (below_set1 HB1.out (show w.heap.size ≤ w.heap.size + 1 + 1 by omega) _ _) (show w.heap.size ≤ w.heap.size + 1 + 1 by omega) _ _, (Y1.out.other (by show w.heap.size ≠ w.heap.size + 1 + 1; omega) _).other (by show w.heap.size ≠ w.heap.size + 1 + 1; omega) _, (Y2.out.other (by show w.heap.size + 1 ≠ w.heap.size + 1 + 1; omega) _).other (by show w.heap.size + 1 ≠ w.heap.size + 1 + 1; omega) _, (Y3.out.set 2 _).set 1 _⟩
    case rest =>
    clear k1 k2 k3 f2 f3 l1 l2 l3 Y1 Y2 Y3 HB1
    obtain ⟨HB1, Y1, Y2, Y3⟩ := hcut
    have k1 := Y1.out.cell
    have k2 := Y2.out.cell
    have k3 := Y3.out.cell
    have f2 := Y2.out.frz
    have f3 := Y3.out.frz
    have l1 := Y1.out.lt
    have l2 := Y2.out.lt
    have l3 := Y3.out.lt
    go_wp2_with fail
    refine bodyPost_ret (v := .agg #[.int .i64 (n + 1), .int .i64 (Y + 1), .int .i64 1, .int .i64 1, .int .i64 W8]) ?_ rfl ⟨ret_day ⟨rfl, HR.out.1.symm, HR.out.2.1.symm, HR.out.2.2.symm, HW3.out⟩, ?_⟩
    · simp [results, Tryz.results100, go_sem, k1, k2, k3, l1, l2, l3]
    · exact below_set5 (below_set1 (below_set1 HB1.out (show w.heap.size ≤ w.heap.size + 1 + 1 by omega) _ _) (show w.heap.size ≤ w.heap.size + 1 + 1 by omega) _ _) (Nat.le_succ _) _ _ _ _ _
end Go.Proofs.YtechgcjdigpglaaGreat
