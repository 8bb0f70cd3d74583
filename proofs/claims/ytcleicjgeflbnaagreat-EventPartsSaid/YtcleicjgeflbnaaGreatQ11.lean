/- cmp.Compare, cmp.Or, the order of spans. -/
import Derived.Test.YtcleicjgeflbnaaGreatQ10
import Derived.Shelf.SlSortCmp.WholeK
namespace Go.Proofs.YtcleicjgeflbnaaGreat
open Go.RowKit Go.ChangeShapes Go.WideShapes Go.Deep
set_option linter.all false

def cmpV (x y : Int) : Int := if x < y then -1 else if y < x then 1 else 0
theorem cmpI_any (x y : Int) (w : World) : Calls Tryz.prog 35 #[.int .i64 x, .int .i64 y] w fun e w' => e = .returned (.int .i64 (cmpV x y)) ∧ w' = w := by
  have NN := Lib.hid (show ∀ (x : Int) (W : World), Calls Tryz.prog 60 #[.int .i64 x] W fun e w' => e = .returned (.bool false) ∧ w' = W from fun x W => by
    have b1 : (x != x) = false := by simp
    go_enter Tryz.func60, Tryz.ntmps60
    go_wp2_with fail
    go_ret
    exact ⟨rfl, rfl⟩)
  unfold cmpV
  by_cases h1 : x < y
  · have d1 := decide_eq_true h1
    rw [if_pos h1]
    go_enter Tryz.func35, Tryz.ntmps35
    go_wp2_with (go_at_call 60; ((with_reducible refine (NN.out _ _).mono ?_); rintro e w1 ⟨rfl, hw2⟩; obtain rfl := hw2.symm))
    go_ret
    exact ⟨rfl, rfl⟩
  · have d1 := decide_eq_false h1
    rw [if_neg h1]
    by_cases h2 : y < x
    · have d2 := decide_eq_true h2
      rw [if_pos h2]
      go_enter Tryz.func35, Tryz.ntmps35
      go_wp2_with (go_at_call 60; ((with_reducible refine (NN.out _ _).mono ?_); rintro e w1 ⟨rfl, hw2⟩; obtain rfl := hw2.symm))
      go_ret
      exact ⟨rfl, rfl⟩
    · have d2 := decide_eq_false h2
      rw [if_neg h2]
      go_enter Tryz.func35, Tryz.ntmps35
      go_wp2_with (go_at_call 60; ((with_reducible refine (NN.out _ _).mono ?_); rintro e w1 ⟨rfl, hw2⟩; obtain rfl := hw2.symm))
      go_ret
      exact ⟨rfl, rfl⟩

set_option maxHeartbeats 2000000 in
theorem or_any (g : Nat) (x y : Int) (w : World) (h0 : w.cell? ⟨g, 0, none⟩ = some (.int .i64 x)) (h1 : w.cell? ⟨g, 1, none⟩ = some (.int .i64 y)) :
    Calls Tryz.prog 34 #[.slice (some ⟨g, 0, none⟩) 2 2] w fun e w' => e = .returned (.int .i64 (if x = 0 then y else x)) ∧ w' = w := by
  obtain ⟨R, hR⟩ : ∃ R, R = if x = 0 then y else x := ⟨_, rfl⟩
  rw [← hR]
  have HR := Lib.hid hR
  clear hR
  go_enter Tryz.func34, Tryz.ntmps34
  go_wp2_with fail
  go_loopw [8] (fun b wr => wr = w ∧ (b = .int .i64 0 ∨ (b = .int .i64 1 ∧ Hid (x = 0)) ∨ (b = .int .i64 2 ∧ Hid (x = 0 ∧ y = 0)))) (fun b _ => 2 - (intOf b).toNat)
  case atStart => exact ⟨rfl, .inl rfl⟩
  case round =>
    obtain ⟨rfl, rfl | ⟨rfl, HX⟩ | ⟨rfl, HX⟩⟩ := hrel
    · by_cases hx0 : x = 0
      · have b1 : (x != 0) = false := by simp [hx0]
        have b2 : (x == 0) = true := by simp [hx0]
        have HX := Lib.hid hx0
        clear hx0
        go_wp2_with fail
        go_roundw
        case measure => simp [intOf]
        case rel => exact ⟨by trivial, .inr (.inl ⟨by go_num, HX⟩)⟩
      · have b1 : (x != 0) = true := by simp [hx0]
        have b2 : (x == 0) = false := by simp [hx0]
        have HX := Lib.hid hx0
        clear hx0
        go_wp2_with fail
        go_ret
        exact ⟨ret_i (by rw [HR.out, if_neg HX.out]), rfl⟩
    · by_cases hx0 : y = 0
      · have b1 : (y != 0) = false := by simp [hx0]
        have b2 : (y == 0) = true := by simp [hx0]
        have HX := Lib.hid (And.intro HX.out hx0)
        clear hx0
        go_wp2_with fail
        go_roundw
        case measure => simp [intOf]
        case rel => exact ⟨by trivial, .inr (.inr ⟨by go_num, HX⟩)⟩
      · have b1 : (y != 0) = true := by simp [hx0]
        have b2 : (y == 0) = false := by simp [hx0]
        clear hx0
        go_wp2_with fail
        go_ret
        exact ⟨ret_i (by rw [HR.out, if_pos HX.out]), rfl⟩
    · go_wp2_with fail
      go_ret
      exact ⟨ret_i (by rw [HR.out, if_pos HX.out.1, HX.out.2]), rfl⟩

/-- What the order of spans says. -/
def spCmp (x y : Int × Int) : Int := if cmpV x.1 y.1 = 0 then cmpV x.2 y.2 else cmpV x.1 y.1

set_option maxHeartbeats 8000000 in
set_option maxRecDepth 100000 in
theorem less_any (x y : Int × Int) (w : World) :
    Calls Tryz.prog 33 #[.agg #[.int .i64 x.1, .int .i64 x.2], .agg #[.int .i64 y.1, .int .i64 y.2]] w fun e w' => e = .returned (.int .i64 (spCmp x y)) ∧ ∃ q os, w' = Sort.grow (w.drewN q) os := by
  obtain ⟨x1, x2⟩ := x
  obtain ⟨y1, y2⟩ := y
  show Calls _ _ _ _ fun e w' => e = .returned (.int .i64 (if cmpV x1 y1 = 0 then cmpV x2 y2 else cmpV x1 y1)) ∧ _
  obtain ⟨c1, hc1⟩ : ∃ c, c = cmpV x1 y1 := ⟨_, rfl⟩
  obtain ⟨c2, hc2⟩ : ∃ c, c = cmpV x2 y2 := ⟨_, rfl⟩
  rw [← hc1, ← hc2]
  have C1 := Lib.hid (fun W => cmpI_any x1 y1 W)
  have C2 := Lib.hid (fun W => cmpI_any x2 y2 W)
  rw [← hc1] at C1
  rw [← hc2] at C2
  have CO := Lib.hid (fun g W h0 h1 => or_any g c1 c2 W h0 h1)
  obtain ⟨R, hR⟩ : ∃ R, R = if c1 = 0 then c2 else c1 := ⟨_, rfl⟩
  rw [← hR] at CO ⊢
  clear hc1 hc2 hR
  have x1_ := BxAt.new w #[.int .i64 x1, .int .i64 x2] 34
  have x2_ := BxAt.new (w.alloc (.cells #[.int .i64 x1, .int .i64 x2] 34)) #[.int .i64 y1, .int .i64 y2] 34
  rw [show (w.alloc (.cells #[.int .i64 x1, .int .i64 x2] 34)).heap.size = w.heap.size + 1 by simp] at x2_
  have X1 := Lib.hid (x1_.below (belowA (.cells #[.int .i64 y1, .int .i64 y2] 34) (Below.refl _ _)))
  have X2 := Lib.hid x2_
  have X3 := Lib.hid (And.intro (X1.out.drew.below (belowA (.cells #[.int .i64 c1, .int .i64 c2] 3) (Below.refl _ _))) (X2.out.drew.below (belowA (.cells #[.int .i64 c1, .int .i64 c2] 3) (Below.refl _ _))))
  have x4_ := BxAt.new ((w.alloc (.cells #[.int .i64 x1, .int .i64 x2] 34)).alloc (.cells #[.int .i64 y1, .int .i64 y2] 34)) #[.int .i64 c1, .int .i64 c2] 3
  rw [show ((w.alloc (.cells #[.int .i64 x1, .int .i64 x2] 34)).alloc (.cells #[.int .i64 y1, .int .i64 y2] 34)).heap.size = w.heap.size + 1 + 1 by simp] at x4_
  have X4 := Lib.hid x4_
  clear x1_ x2_ x4_
  go_enter Tryz.func33, Tryz.ntmps33
  go_wp2_with fail
  refine wp_region_held_drew (S := (fun W' => (∀ j, W'.cell? ⟨w.heap.size, j, none⟩ = (#[.int .i64 x1, .int .i64 x2] : Array Value)[j]?) ∧ (∀ j, W'.cell? ⟨w.heap.size + 1, j, none⟩ = (#[.int .i64 y1, .int .i64 y2] : Array Value)[j]?))) (by kernel_rfl) (And.intro X1.out.drew.cell X2.out.drew.cell) (fun hHeld => ?_)
  simp only [List.size_toArray, List.length_cons, List.length_nil, Nat.reduceAdd, Array.replicate_succ, Array.replicate_zero, List.push_toArray, List.nil_append, List.cons_append]
  refine wpAnyH_take (i := 0) (oi := ⟨some 5, _, _, _, _, _⟩) (v := ?_) rfl (by kernel_rfl) (by kernel_rfl) (by kernel_rfl) (fun _ _ _ h => h) (Or.inl ⟨by kernel_rfl, ?_⟩) (by assumption) ?_
  rotate_left
  · intro w hSw; (try dsimp only at hSw); go_simp; try with_reducible rfl
  try simp only [Act.put, List.setIfInBounds_toArray, List.set_cons_zero, List.set_cons_succ]
  refine wpAnyH_take (i := 1) (oi := ⟨some 6, _, _, _, _, _⟩) (v := ?_) rfl (by kernel_rfl) (by kernel_rfl) (by kernel_rfl) (fun _ _ _ h => h) (Or.inl ⟨by kernel_rfl, ?_⟩) (by assumption) ?_
  rotate_left
  · intro w hSw; (try dsimp only at hSw); go_simp; try with_reducible rfl
  try simp only [Act.put, List.setIfInBounds_toArray, List.set_cons_zero, List.set_cons_succ]
  refine wpAnyH_take (i := 2) (oi := ⟨some 7, _, _, _, _, _⟩) (v := ?_) rfl (by kernel_rfl) (by kernel_rfl) (by kernel_rfl) (fun _ _ _ h => h) (Or.inl ⟨by kernel_rfl, ?_⟩) (by assumption) ?_
  rotate_left
  · intro w hSw; (try dsimp only at hSw); go_simp; try with_reducible rfl
  try simp only [Act.put, List.setIfInBounds_toArray, List.set_cons_zero, List.set_cons_succ]
  refine wpAnyH_take (i := 3) (oi := ⟨some 8, _, _, _, _, _⟩) (v := ?_) rfl (by kernel_rfl) (by kernel_rfl) (by kernel_rfl) (fun _ _ _ h => h) (Or.inl ⟨by kernel_rfl, ?_⟩) (by assumption) ?_
  rotate_left
  · intro w hSw; (try dsimp only at hSw); go_simp; try with_reducible rfl
  try simp only [Act.put, List.setIfInBounds_toArray, List.set_cons_zero, List.set_cons_succ]
  refine wpAnyH_take (i := 5) (oi := ⟨some 10, _, _, _, _, _⟩) (v := ?_) rfl (by kernel_rfl) (by kernel_rfl) (by kernel_rfl) (fun _ _ _ h => h) (Or.inl ⟨by kernel_rfl, ?_⟩) (by assumption) ?_
  rotate_left
  · intro w hSw; (try dsimp only at hSw); go_simp; try with_reducible rfl
  try simp only [Act.put, List.setIfInBounds_toArray, List.set_cons_zero, List.set_cons_succ]
  refine wpAnyH_take (i := 6) (oi := ⟨some 11, _, _, _, _, _⟩) (v := ?_) rfl (by kernel_rfl) (by kernel_rfl) (by kernel_rfl) (fun _ _ _ h => h) (Or.inl ⟨by kernel_rfl, ?_⟩) (by assumption) ?_
  rotate_left
  · intro w hSw; (try dsimp only at hSw); go_simp; try with_reducible rfl
  try simp only [Act.put, List.setIfInBounds_toArray, List.set_cons_zero, List.set_cons_succ]
  refine wpAnyH_take (i := 7) (oi := ⟨some 12, _, _, _, _, _⟩) (v := ?_) rfl (by kernel_rfl) (by kernel_rfl) (by kernel_rfl) (fun _ _ _ h => h) (Or.inl ⟨by kernel_rfl, ?_⟩) (by assumption) ?_
  rotate_left
  · intro w hSw; (try dsimp only at hSw); go_simp; try with_reducible rfl
  try simp only [Act.put, List.setIfInBounds_toArray, List.set_cons_zero, List.set_cons_succ]
  refine wpAnyH_take (i := 8) (oi := ⟨some 13, _, _, _, _, _⟩) (v := ?_) rfl (by kernel_rfl) (by kernel_rfl) (by kernel_rfl) (fun _ _ _ h => h) (Or.inl ⟨by kernel_rfl, ?_⟩) (by assumption) ?_
  rotate_left
  · intro w hSw; (try dsimp only at hSw); go_simp; try with_reducible rfl
  try simp only [Act.put, List.setIfInBounds_toArray, List.set_cons_zero, List.set_cons_succ]
  refine wpAnyH_ready (rs := [4]) (by kernel_rfl) (by simp) ?_
  refine AllReadyH.cons rfl (fun K hK => ?_) AllReadyH.nil
  have HK := Lib.hid hK
  go_simp
  go_at_call 35; ((with_reducible refine (C1.out _).mono ?_); rintro e w3 ⟨rfl, rfl⟩)
  go_simp
  refine HK.out _ _ (And.intro X1.out.drew.cell X2.out.drew.cell) (fun hHeld => ?_)
  clear HK hK K
  try simp only [Act.put, List.setIfInBounds_toArray, List.set_cons_zero, List.set_cons_succ]
  refine wpAnyH_ready (rs := [9]) (by kernel_rfl) (by simp) ?_
  refine AllReadyH.cons rfl (fun K hK => ?_) AllReadyH.nil
  have HK := Lib.hid hK
  go_simp
  go_at_call 35; ((with_reducible refine (C2.out _).mono ?_); rintro e w4 ⟨rfl, rfl⟩)
  go_simp
  refine HK.out _ _ (And.intro X1.out.drew.cell X2.out.drew.cell) (fun hHeld => ?_)
  clear HK hK K
  try simp only [Act.put, List.setIfInBounds_toArray, List.set_cons_zero, List.set_cons_succ]
  refine wpAnyH_ready (rs := [10]) (by kernel_rfl) (by simp) ?_
  refine AllReadyH.cons rfl (fun K hK => ?_) AllReadyH.nil
  have HK := Lib.hid hK
  go_simp
  skip
  go_simp
  refine HK.out _ _ (And.intro X3.out.1.cell X3.out.2.cell) (fun hHeld => ?_)
  clear HK hK K
  try simp only [Act.put, List.setIfInBounds_toArray, List.set_cons_zero, List.set_cons_succ]
  refine wpAnyH_ready (rs := [11]) (by kernel_rfl) (by simp) ?_
  refine AllReadyH.cons rfl (fun K hK => ?_) AllReadyH.nil
  have HK := Lib.hid hK
  go_simp
  go_at_call 34; ((with_reducible refine (CO.out _ _ (X4.out.drew.cell 0) (X4.out.drew.cell 1)).mono ?_); rintro e w5 ⟨rfl, rfl⟩)
  go_simp
  refine HK.out _ _ (And.intro X3.out.1.cell X3.out.2.cell) (fun hHeld => ?_)
  clear HK hK K
  try simp only [Act.put, List.setIfInBounds_toArray, List.set_cons_zero, List.set_cons_succ]
  refine wpAnyH_take (i := 12) (oi := ⟨some 4, _, _, _, _, _⟩) (v := ?_) rfl (by kernel_rfl) (by kernel_rfl) (by kernel_rfl) (fun _ _ _ h => h) (Or.inl ⟨by kernel_rfl, ?_⟩) (by assumption) ?_
  rotate_left
  · intro w hSw; (try dsimp only at hSw); go_simp; try with_reducible rfl
  try simp only [Act.put, List.setIfInBounds_toArray, List.set_cons_zero, List.set_cons_succ]
  refine wpAnyH_done (by kernel_rfl) ?_ _
  go_wp2_with fail
  go_ret
  refine ⟨rfl, 1, #[(.cells #[.int .i64 x1, .int .i64 x2] 34), (.cells #[.int .i64 y1, .int .i64 y2] 34), (.cells #[.int .i64 c1, .int .i64 c2] 3)], ?_⟩
  simp only [Sort.alloc_eq_grow, Sort.grow_grow, Sort.drew_grow]
  rfl
end Go.Proofs.YtcleicjgeflbnaaGreat
