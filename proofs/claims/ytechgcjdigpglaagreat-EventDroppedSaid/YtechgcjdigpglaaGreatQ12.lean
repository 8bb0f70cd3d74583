/- event.member. Conditions: the zone may be, the time is a stamp. cmp.Compare, cmp.Or, the order of spans. slices.SortFunc at spans. -/
import Derived.Test.YtechgcjdigpglaaGreatQ9
import Derived.Test.YtechgcjdigpglaaGreatZ7
import Derived.Shelf.SlSortCmp.WholeK
import Derived.Test.YtechgcjdigpglaaGreatSH2
import Derived.Shelf.SlSortCmp.NoneTotal
namespace Go.Proofs.YtechgcjdigpglaaGreat
open Go.RowKit Go.ChangeShapes Go.WideShapes Go.Deep
set_option linter.all false

def encSp (s : Int × Int) : List Value := [.int .i64 s.1, .int .i64 s.2]
def spC (l : List (Int × Int)) : List Value := l.flatMap encSp
theorem spC_append (a b : List (Int × Int)) : spC (a ++ b) = spC a ++ spC b := by simp [spC]
theorem infoSpan : (Tryz.prog.info? 34).map (fun i => (i.zero, i.size, i.bytes)) = some (some (.agg #[.int .i64 0, .int .i64 0]), 2, 16) := by kernel_rfl
theorem underSpans : Tryz.prog.underlying 38 = some (.slice 34) := by kernel_rfl

/-- The member of a time, if it meets the window. -/
def memF (z : ZoneD) (at_ long from_ to_ : Int) : List (Int × Int) :=
  if (0 ≤ atZ z at_ ∧ atZ z at_ ≤ 158310720) ∧ long ≠ 0 ∧ atZ z at_ < to_ ∧ from_ < atZ z at_ + long then [(atZ z at_, atZ z at_ + long)] else []

set_option maxHeartbeats 8000000 in
set_option maxRecDepth 100000 in
theorem member_any {w0 : World} {B : Nat} (cs : List Value) (z : ZoneD) (at_ long from_ to_ : Int) (v : Value) (L : List (Int × Int)) (w : World) (h : rZone w cs z) (hm : mayZ z) (ha0 : 0 ≤ at_) (ha1 : at_ < 158310720) (hl0 : 0 ≤ long) (hl1 : long ≤ 10080)
    (ho : w.ownsRow B 34 2 v L.length (spC L)) (hb : Below B w0 w) (hB : B ≤ w.heap.size) (hn : L.length ≤ 1000000) :
    Calls Tryz.prog 52 #[v, .agg cs.toArray, .int .i64 at_, .int .i64 long, .agg #[.int .i64 from_, .int .i64 to_]] w fun e w' => ∃ v', e = .returned v' ∧ w'.ownsRow B 34 2 v' (L ++ memF z at_ long from_ to_).length (spC (L ++ memF z at_ long from_ to_)) ∧ Below B w0 w' := by
  obtain ⟨i0, hi, hz0, hz1, hz2⟩ := info_parts infoSpan
  have SZ := Lib.hid h
  obtain ⟨t, rfl, -, ht⟩ := h
  obtain ⟨o, nn, c, rfl, -, -, -, -⟩ := ht.open
  have Y0 := Lib.hid (show Below w.heap.size w ((w.alloc (.cells #[.int .i64 z.base, .slice o nn c] 24)).alloc (.cells #[.int .i64 from_, .int .i64 to_] 34)) from belowA _ (belowA _ (Below.refl _ _)))
  have x0 := BxAt.new (w.alloc (.cells #[.int .i64 z.base, .slice o nn c] 24)) #[.int .i64 from_, .int .i64 to_] 34
  rw [show (w.alloc (.cells #[.int .i64 z.base, .slice o nn c] 24)).heap.size = w.heap.size + 1 by simp] at x0
  have X0 := Lib.hid x0
  clear x0
  have CU := Lib.hid (utc_yes _ z at_ _ (SZ.out.later Y0.out) hm (by omega) (by omega))
  have HO := Lib.hid ho
  have HB := Lib.hid (And.intro hb hB)
  obtain ⟨A, hA⟩ : ∃ A, A = atZ z at_ := ⟨_, rfl⟩
  have hMF : memF z at_ long from_ to_ = if (0 ≤ A ∧ A ≤ 158310720) ∧ long ≠ 0 ∧ A < to_ ∧ from_ < A + long then [(A, A + long)] else [] := by rw [hA]; rfl
  have hUV : ∀ k, utcV z at_ k = if 0 ≤ A ∧ A ≤ 158310720 then .tuple #[.int .i64 A, .int .i64 k, .bool true] else .tuple #[.int .i64 0, .int .i64 0, .bool false] := fun k => by rw [hA]; rfl
  have HUV := Lib.hid hUV
  obtain ⟨M, hM⟩ : ∃ M, M = memF z at_ long from_ to_ := ⟨_, rfl⟩
  rw [← hM] at hMF ⊢
  have HMF := Lib.hid hMF
  have hkeep : ¬ ((0 ≤ A ∧ A ≤ 158310720) ∧ long ≠ 0 ∧ A < to_ ∧ from_ < A + long) → ∀ w', Below w.heap.size w w' → w'.ownsRow B 34 2 v (L ++ M).length (spC (L ++ M)) ∧ Below B w0 w' := fun hP w' hw => by
    rw [HMF.out, if_neg hP, List.append_nil]
    exact ⟨own_laterI HO.out hw, HB.out.1.trans (hw.mono HB.out.2)⟩
  have HK := Lib.hid hkeep
  clear hkeep hMF hM hUV hA ht ho hb hB hm
  have d0 : ∀ (x : Int), 0 ≤ x → x ≤ 158310720 → IntKind.i64.wrap (x + long) = x + long := fun x h0 h1 => by rw [IntKind.wrap_i64]; omega
  have D0 := Lib.hid d0
  clear d0
  by_cases hin : 0 ≤ A ∧ A ≤ 158310720
  · have hw1 := D0.out A hin.1 hin.2
    have hw2 : wrap64 (A + long) = A + long := by unfold wrap64; omega
    have HIN := Lib.hid hin
    by_cases hl : long = 0
    · have b1 : (long == 0) = true := by simpa using hl
      have HN := Lib.hid (HK.out (fun h => h.2.1 hl))
      clear hin hl
      go_enter Tryz.func52, Tryz.ntmps52
      go_wp2_with fail
      (with_reducible refine CU.out.mono ?_)
      rintro q w1 ⟨⟨k, rfl⟩, hb1⟩
      rw [HUV.out k, if_pos HIN.out]
      have HB1 := Lib.hid (Y0.out.trans (hb1.mono Y0.out.size))
      have X1 := Lib.hid (X0.out.below hb1)
      have kA := X1.out.cell
      clear hb1
      go_wp2_with fail
      go_ret
      exact ⟨v, rfl, HN.out _ (belowA _ HB1.out)⟩
    · have b1 : (long == 0) = false := by simpa using hl
      by_cases h1 : to_ ≤ A
      · have d1 := decide_eq_true h1
        have HN := Lib.hid (HK.out (fun h => by omega))
        clear hin hl h1
        go_enter Tryz.func52, Tryz.ntmps52
        go_wp2_with fail
        (with_reducible refine CU.out.mono ?_)
        rintro q w1 ⟨⟨k, rfl⟩, hb1⟩
        rw [HUV.out k, if_pos HIN.out]
        have HB1 := Lib.hid (Y0.out.trans (hb1.mono Y0.out.size))
        have X1 := Lib.hid (X0.out.below hb1)
        have kA := X1.out.cell
        have lA := X1.out.lt
        clear hb1
        go_wp2_with fail
        go_ret
        exact ⟨v, rfl, HN.out _ (belowA _ HB1.out)⟩
      · have d1 := decide_eq_false h1
        by_cases h2 : A + long ≤ from_
        · have d2 := decide_eq_true h2
          have HN := Lib.hid (HK.out (fun h => by omega))
          clear hin hl h1 h2
          go_enter Tryz.func52, Tryz.ntmps52
          go_wp2_with fail
          (with_reducible refine CU.out.mono ?_)
          rintro q w1 ⟨⟨k, rfl⟩, hb1⟩
          rw [HUV.out k, if_pos HIN.out]
          have HB1 := Lib.hid (Y0.out.trans (hb1.mono Y0.out.size))
          have X1 := Lib.hid (X0.out.below hb1)
          have kA := X1.out.cell
          have lA := X1.out.lt
          clear hb1
          go_wp2_with fail
          go_ret
          exact ⟨v, rfl, HN.out _ (belowA _ HB1.out)⟩
        · have d2 := decide_eq_false h2
          have HG := Lib.hid (show M = [(A, A + long)] by rw [HMF.out]; exact if_pos ⟨hin, hl, by omega, by omega⟩)
          clear hin hl h1 h2
          go_enter Tryz.func52, Tryz.ntmps52
          go_wp2_with fail
          (with_reducible refine CU.out.mono ?_)
          rintro q w1 ⟨⟨k, rfl⟩, hb1⟩
          rw [HUV.out k, if_pos HIN.out]
          have HB1 := Lib.hid (Y0.out.trans (hb1.mono Y0.out.size))
          have X1 := Lib.hid (X0.out.below hb1)
          have kA := X1.out.cell
          have lA := X1.out.lt
          clear hb1
          have HOW := Lib.hid (own_laterI HO.out HB1.out)
          have hBw : B ≤ w1.heap.size := Nat.le_trans HB.out.2 HB1.out.size
          go_wp2_with (at_builtin; refine wpList_append_own ((w1.alloc (.cells #[.int .i64 A, .int .i64 (A + long)] 34)).alloc (.cells #[.int .i64 A, .int .i64 (A + long)] 34)) rfl (.tmp 48) (.tmp 50) 38 rfl B 34 i0 (.agg #[.int .i64 0, .int .i64 0]) 2 16 underSpans hi hz0 hz1 hz2 rfl (by decide) v L.length (spC L) rfl ((HOW.out.alloc _).alloc _) ⟨w1.heap.size + 1, 0, none⟩ 1 1 [.int .i64 A, .int .i64 (A + long)] rfl rfl ?c1 ?c2 ?c3 ?c4 ?c5 ?_)
          case c1 =>
            intro j u hj
            match j, hj with
            | 0, hj => simp at hj; subst hj; simp [Addr.add]
            | 1, hj => simp at hj; subst hj; simp [Addr.add]
            | (_ + 2), hj => simp at hj
          case c2 => intro u hu; simp at hu; rcases hu with rfl | rfl <;> rfl
          case c3 => unfold maxLen; omega
          case c4 => omega
          case c5 => simp; omega
          intro v' w4 hown hgrow _
          have HBW := Lib.hid (show Below B w0 w1 from HB.out.1.trans (HB1.out.mono HB.out.2))
          have HB4 := Lib.hid (((HBW.out.alloc hBw (.cells #[.int .i64 A, .int .i64 (A + long)] 34)).alloc (by simp; omega) (.cells #[.int .i64 A, .int .i64 (A + long)] 34)).grown hgrow (by simp; omega) (fun j hj => (HO.out.lt j hj).1))
          have HO4 := Lib.hid hown
          clear hown hgrow
          go_wp2_with fail
          go_ret
          exact ⟨v', rfl, by rw [HG.out, spC_append, List.length_append]; exact HO4.out, HB4.out⟩
  · have HN := Lib.hid (HK.out (fun h => hin h.1))
    have HIN := Lib.hid hin
    have hw1 := D0.out 0 (by decide) (by decide)
    have hw2 : wrap64 (0 + long) = 0 + long := by unfold wrap64; omega
    have hw3 : wrap64 long = long := by unfold wrap64; omega
    have hw4 : IntKind.i64.wrap long = long := by rw [IntKind.wrap_i64]; omega
    clear hin
    go_enter Tryz.func52, Tryz.ntmps52
    go_wp2_with fail
    (with_reducible refine CU.out.mono ?_)
    rintro q w1 ⟨⟨k, rfl⟩, hb1⟩
    rw [HUV.out k, if_neg HIN.out]
    have HB1 := Lib.hid (Y0.out.trans (hb1.mono Y0.out.size))
    clear hb1
    go_wp2_with fail
    go_ret
    exact ⟨v, rfl, HN.out _ (belowA _ HB1.out)⟩
end Go.Proofs.YtechgcjdigpglaaGreat
namespace Go.Proofs.YtechgcjdigpglaaGreat
open Go.RowKit Go.ChangeShapes Go.WideShapes Go.Deep
set_option linter.all false

def cmpV (x y : Int) : Int := if x < y then -1 else if y < x then 1 else 0
theorem cmpI_any (x y : Int) (w : World) : Calls Tryz.prog 56 #[.int .i64 x, .int .i64 y] w fun e w' => e = .returned (.int .i64 (cmpV x y)) ∧ w' = w := by
  have NN := Lib.hid (show ∀ (x : Int) (W : World), Calls Tryz.prog 97 #[.int .i64 x] W fun e w' => e = .returned (.bool false) ∧ w' = W from fun x W => by
    have b1 : (x != x) = false := by simp
    go_enter Tryz.func97, Tryz.ntmps97
    go_wp2_with fail
    go_ret
    exact ⟨rfl, rfl⟩)
  unfold cmpV
  by_cases h1 : x < y
  · have d1 := decide_eq_true h1
    rw [if_pos h1]
    go_enter Tryz.func56, Tryz.ntmps56
    go_wp2_with (go_at_call 97; ((with_reducible refine (NN.out _ _).mono ?_); rintro e w1 ⟨rfl, hw2⟩; obtain rfl := hw2.symm))
    go_ret
    exact ⟨rfl, rfl⟩
  · have d1 := decide_eq_false h1
    rw [if_neg h1]
    by_cases h2 : y < x
    · have d2 := decide_eq_true h2
      rw [if_pos h2]
      go_enter Tryz.func56, Tryz.ntmps56
      go_wp2_with (go_at_call 97; ((with_reducible refine (NN.out _ _).mono ?_); rintro e w1 ⟨rfl, hw2⟩; obtain rfl := hw2.symm))
      go_ret
      exact ⟨rfl, rfl⟩
    · have d2 := decide_eq_false h2
      rw [if_neg h2]
      go_enter Tryz.func56, Tryz.ntmps56
      go_wp2_with (go_at_call 97; ((with_reducible refine (NN.out _ _).mono ?_); rintro e w1 ⟨rfl, hw2⟩; obtain rfl := hw2.symm))
      go_ret
      exact ⟨rfl, rfl⟩

set_option maxHeartbeats 2000000 in
theorem or_any (g : Nat) (x y : Int) (w : World) (h0 : w.cell? ⟨g, 0, none⟩ = some (.int .i64 x)) (h1 : w.cell? ⟨g, 1, none⟩ = some (.int .i64 y)) :
    Calls Tryz.prog 55 #[.slice (some ⟨g, 0, none⟩) 2 2] w fun e w' => e = .returned (.int .i64 (if x = 0 then y else x)) ∧ w' = w := by
  obtain ⟨R, hR⟩ : ∃ R, R = if x = 0 then y else x := ⟨_, rfl⟩
  rw [← hR]
  have HR := Lib.hid hR
  clear hR
  go_enter Tryz.func55, Tryz.ntmps55
  go_wp2_with fail
  go_loopw [8] (fun b wr => wr = w ∧ (b = .int .i64 0 ∨ (b = .int .i64 1 ∧ Hid (x = 0)) ∨ (b = .int .i64 2 ∧ Hid (x = 0 ∧ y = 0)))) (fun b _ => 2 - (intOf b).toNat)
  case atStart => exact ⟨rfl, .inl rfl⟩
  case round =>
    obtain ⟨rfl, rfl | ⟨rfl, HX⟩ | ⟨rfl, HX⟩⟩ := hrel
    · by_cases hx0 : x = 0
      · have b1 : (x != 0) = false := by simp [hx0]
        have b2 : (x == 0) = true := by simp [hx0]
        have HX := Lib.hid hx0
        clear hx0
        go_wp2_with fail
        go_roundw
        case measure => simp [intOf]
        case rel => exact ⟨by trivial, .inr (.inl ⟨by go_num, HX⟩)⟩
      · have b1 : (x != 0) = true := by simp [hx0]
        have b2 : (x == 0) = false := by simp [hx0]
        have HX := Lib.hid hx0
        clear hx0
        go_wp2_with fail
        go_ret
        exact ⟨ret_i (by rw [HR.out, if_neg HX.out]), rfl⟩
    · by_cases hx0 : y = 0
      · have b1 : (y != 0) = false := by simp [hx0]
        have b2 : (y == 0) = true := by simp [hx0]
        have HX := Lib.hid (And.intro HX.out hx0)
        clear hx0
        go_wp2_with fail
        go_roundw
        case measure => simp [intOf]
        case rel => exact ⟨by trivial, .inr (.inr ⟨by go_num, HX⟩)⟩
      · have b1 : (y != 0) = true := by simp [hx0]
        have b2 : (y == 0) = false := by simp [hx0]
        clear hx0
        go_wp2_with fail
        go_ret
        exact ⟨ret_i (by rw [HR.out, if_pos HX.out]), rfl⟩
    · go_wp2_with fail
      go_ret
      exact ⟨ret_i (by rw [HR.out, if_pos HX.out.1, HX.out.2]), rfl⟩

/-- What the order of spans says. -/
def spCmp (x y : Int × Int) : Int := if cmpV x.1 y.1 = 0 then cmpV x.2 y.2 else cmpV x.1 y.1

set_option maxHeartbeats 8000000 in
set_option maxRecDepth 100000 in
theorem less_any (x y : Int × Int) (w : World) :
    Calls Tryz.prog 54 #[.agg #[.int .i64 x.1, .int .i64 x.2], .agg #[.int .i64 y.1, .int .i64 y.2]] w fun e w' => e = .returned (.int .i64 (spCmp x y)) ∧ ∃ q os, w' = Sort.grow (w.drewN q) os := by
  obtain ⟨x1, x2⟩ := x
  obtain ⟨y1, y2⟩ := y
  show Calls _ _ _ _ fun e w' => e = .returned (.int .i64 (if cmpV x1 y1 = 0 then cmpV x2 y2 else cmpV x1 y1)) ∧ _
  obtain ⟨c1, hc1⟩ : ∃ c, c = cmpV x1 y1 := ⟨_, rfl⟩
  obtain ⟨c2, hc2⟩ : ∃ c, c = cmpV x2 y2 := ⟨_, rfl⟩
  rw [← hc1, ← hc2]
  have C1 := Lib.hid (fun W => cmpI_any x1 y1 W)
  have C2 := Lib.hid (fun W => cmpI_any x2 y2 W)
  rw [← hc1] at C1
  rw [← hc2] at C2
  have CO := Lib.hid (fun g W h0 h1 => or_any g c1 c2 W h0 h1)
  obtain ⟨R, hR⟩ : ∃ R, R = if c1 = 0 then c2 else c1 := ⟨_, rfl⟩
  rw [← hR] at CO ⊢
  clear hc1 hc2 hR
  have x1_ := BxAt.new w #[.int .i64 x1, .int .i64 x2] 34
  have x2_ := BxAt.new (w.alloc (.cells #[.int .i64 x1, .int .i64 x2] 34)) #[.int .i64 y1, .int .i64 y2] 34
  rw [show (w.alloc (.cells #[.int .i64 x1, .int .i64 x2] 34)).heap.size = w.heap.size + 1 by simp] at x2_
  have X1 := Lib.hid (x1_.below (belowA (.cells #[.int .i64 y1, .int .i64 y2] 34) (Below.refl _ _)))
  have X2 := Lib.hid x2_
  have X3 := Lib.hid (And.intro (X1.out.drew.below (belowA (.cells #[.int .i64 c1, .int .i64 c2] 3) (Below.refl _ _))) (X2.out.drew.below (belowA (.cells #[.int .i64 c1, .int .i64 c2] 3) (Below.refl _ _))))
  have x4_ := BxAt.new ((w.alloc (.cells #[.int .i64 x1, .int .i64 x2] 34)).alloc (.cells #[.int .i64 y1, .int .i64 y2] 34)) #[.int .i64 c1, .int .i64 c2] 3
  rw [show ((w.alloc (.cells #[.int .i64 x1, .int .i64 x2] 34)).alloc (.cells #[.int .i64 y1, .int .i64 y2] 34)).heap.size = w.heap.size + 1 + 1 by simp] at x4_
  have X4 := Lib.hid x4_
  clear x1_ x2_ x4_
  go_enter Tryz.func54, Tryz.ntmps54
  go_wp2_with fail
  refine wp_region_held_drew (S := (fun W' => (∀ j, W'.cell? ⟨w.heap.size, j, none⟩ = (#[.int .i64 x1, .int .i64 x2] : Array Value)[j]?) ∧ (∀ j, W'.cell? ⟨w.heap.size + 1, j, none⟩ = (#[.int .i64 y1, .int .i64 y2] : Array Value)[j]?))) (by kernel_rfl) (And.intro X1.out.drew.cell X2.out.drew.cell) (fun hHeld => ?_)
  simp only [List.size_toArray, List.length_cons, List.length_nil, Nat.reduceAdd, Array.replicate_succ, Array.replicate_zero, List.push_toArray, List.nil_append, List.cons_append]
  refine wpAnyH_take (i := 0) (oi := ⟨some 5, _, _, _, _, _⟩) (v := ?_) rfl (by kernel_rfl) (by kernel_rfl) (by kernel_rfl) (fun _ _ _ h => h) (Or.inl ⟨by kernel_rfl, ?_⟩) (by assumption) ?_
  rotate_left
  · intro w hSw; (try dsimp only at hSw); go_simp; try with_reducible rfl
  try simp only [Act.put, List.setIfInBounds_toArray, List.set_cons_zero, List.set_cons_succ]
  refine wpAnyH_take (i := 1) (oi := ⟨some 6, _, _, _, _, _⟩) (v := ?_) rfl (by kernel_rfl) (by kernel_rfl) (by kernel_rfl) (fun _ _ _ h => h) (Or.inl ⟨by kernel_rfl, ?_⟩) (by assumption) ?_
  rotate_left
  · intro w hSw; (try dsimp only at hSw); go_simp; try with_reducible rfl
  try simp only [Act.put, List.setIfInBounds_toArray, List.set_cons_zero, List.set_cons_succ]
  refine wpAnyH_take (i := 2) (oi := ⟨some 7, _, _, _, _, _⟩) (v := ?_) rfl (by kernel_rfl) (by kernel_rfl) (by kernel_rfl) (fun _ _ _ h => h) (Or.inl ⟨by kernel_rfl, ?_⟩) (by assumption) ?_
  rotate_left
  · intro w hSw; (try dsimp only at hSw); go_simp; try with_reducible rfl
  try simp only [Act.put, List.setIfInBounds_toArray, List.set_cons_zero, List.set_cons_succ]
  refine wpAnyH_take (i := 3) (oi := ⟨some 8, _, _, _, _, _⟩) (v := ?_) rfl (by kernel_rfl) (by kernel_rfl) (by kernel_rfl) (fun _ _ _ h => h) (Or.inl ⟨by kernel_rfl, ?_⟩) (by assumption) ?_
  rotate_left
  · intro w hSw; (try dsimp only at hSw); go_simp; try with_reducible rfl
  try simp only [Act.put, List.setIfInBounds_toArray, List.set_cons_zero, List.set_cons_succ]
  refine wpAnyH_take (i := 5) (oi := ⟨some 10, _, _, _, _, _⟩) (v := ?_) rfl (by kernel_rfl) (by kernel_rfl) (by kernel_rfl) (fun _ _ _ h => h) (Or.inl ⟨by kernel_rfl, ?_⟩) (by assumption) ?_
  rotate_left
  · intro w hSw; (try dsimp only at hSw); go_simp; try with_reducible rfl
  try simp only [Act.put, List.setIfInBounds_toArray, List.set_cons_zero, List.set_cons_succ]
  refine wpAnyH_take (i := 6) (oi := ⟨some 11, _, _, _, _, _⟩) (v := ?_) rfl (by kernel_rfl) (by kernel_rfl) (by kernel_rfl) (fun _ _ _ h => h) (Or.inl ⟨by kernel_rfl, ?_⟩) (by assumption) ?_
  rotate_left
  · intro w hSw; (try dsimp only at hSw); go_simp; try with_reducible rfl
  try simp only [Act.put, List.setIfInBounds_toArray, List.set_cons_zero, List.set_cons_succ]
  refine wpAnyH_take (i := 7) (oi := ⟨some 12, _, _, _, _, _⟩) (v := ?_) rfl (by kernel_rfl) (by kernel_rfl) (by kernel_rfl) (fun _ _ _ h => h) (Or.inl ⟨by kernel_rfl, ?_⟩) (by assumption) ?_
  rotate_left
  · intro w hSw; (try dsimp only at hSw); go_simp; try with_reducible rfl
  try simp only [Act.put, List.setIfInBounds_toArray, List.set_cons_zero, List.set_cons_succ]
  refine wpAnyH_take (i := 8) (oi := ⟨some 13, _, _, _, _, _⟩) (v := ?_) rfl (by kernel_rfl) (by kernel_rfl) (by kernel_rfl) (fun _ _ _ h => h) (Or.inl ⟨by kernel_rfl, ?_⟩) (by assumption) ?_
  rotate_left
  · intro w hSw; (try dsimp only at hSw); go_simp; try with_reducible rfl
  try simp only [Act.put, List.setIfInBounds_toArray, List.set_cons_zero, List.set_cons_succ]
  refine wpAnyH_ready (rs := [4]) (by kernel_rfl) (by simp) ?_
  refine AllReadyH.cons rfl (fun K hK => ?_) AllReadyH.nil
  have HK := Lib.hid hK
  go_simp
  go_at_call 56; ((with_reducible refine (C1.out _).mono ?_); rintro e w3 ⟨rfl, rfl⟩)
  go_simp
  refine HK.out _ _ (And.intro X1.out.drew.cell X2.out.drew.cell) (fun hHeld => ?_)
  clear HK hK K
  try simp only [Act.put, List.setIfInBounds_toArray, List.set_cons_zero, List.set_cons_succ]
  refine wpAnyH_ready (rs := [9]) (by kernel_rfl) (by simp) ?_
  refine AllReadyH.cons rfl (fun K hK => ?_) AllReadyH.nil
  have HK := Lib.hid hK
  go_simp
  go_at_call 56; ((with_reducible refine (C2.out _).mono ?_); rintro e w4 ⟨rfl, rfl⟩)
  go_simp
  refine HK.out _ _ (And.intro X1.out.drew.cell X2.out.drew.cell) (fun hHeld => ?_)
  clear HK hK K
  try simp only [Act.put, List.setIfInBounds_toArray, List.set_cons_zero, List.set_cons_succ]
  refine wpAnyH_ready (rs := [10]) (by kernel_rfl) (by simp) ?_
  refine AllReadyH.cons rfl (fun K hK => ?_) AllReadyH.nil
  have HK := Lib.hid hK
  go_simp
  skip
  go_simp
  refine HK.out _ _ (And.intro X3.out.1.cell X3.out.2.cell) (fun hHeld => ?_)
  clear HK hK K
  try simp only [Act.put, List.setIfInBounds_toArray, List.set_cons_zero, List.set_cons_succ]
  refine wpAnyH_ready (rs := [11]) (by kernel_rfl) (by simp) ?_
  refine AllReadyH.cons rfl (fun K hK => ?_) AllReadyH.nil
  have HK := Lib.hid hK
  go_simp
  go_at_call 55; ((with_reducible refine (CO.out _ _ (X4.out.drew.cell 0) (X4.out.drew.cell 1)).mono ?_); rintro e w5 ⟨rfl, rfl⟩)
  go_simp
  refine HK.out _ _ (And.intro X3.out.1.cell X3.out.2.cell) (fun hHeld => ?_)
  clear HK hK K
  try simp only [Act.put, List.setIfInBounds_toArray, List.set_cons_zero, List.set_cons_succ]
  refine wpAnyH_take (i := 12) (oi := ⟨some 4, _, _, _, _, _⟩) (v := ?_) rfl (by kernel_rfl) (by kernel_rfl) (by kernel_rfl) (fun _ _ _ h => h) (Or.inl ⟨by kernel_rfl, ?_⟩) (by assumption) ?_
  rotate_left
  · intro w hSw; (try dsimp only at hSw); go_simp; try with_reducible rfl
  try simp only [Act.put, List.setIfInBounds_toArray, List.set_cons_zero, List.set_cons_succ]
  refine wpAnyH_done (by kernel_rfl) ?_ _
  go_wp2_with fail
  go_ret
  refine ⟨rfl, 1, #[(.cells #[.int .i64 x1, .int .i64 x2] 34), (.cells #[.int .i64 y1, .int .i64 y2] 34), (.cells #[.int .i64 c1, .int .i64 c2] 3)], ?_⟩
  simp only [Sort.alloc_eq_grow, Sort.grow_grow, Sort.drew_grow]
  rfl
end Go.Proofs.YtechgcjdigpglaaGreat
namespace Go.Proofs.YtechgcjdigpglaaGreat
open Go.RowKit Go.ChangeShapes Go.WideShapes Go.Deep Go.Sort
set_option linter.all false

/-- The order of spans. -/
def spLe (a b : Int × Int) : Prop := a.1 < b.1 ∨ a.1 = b.1 ∧ a.2 ≤ b.2
theorem spLt_iff (x y : Int × Int) : ltOf spCmp x y = true ↔ x.1 < y.1 ∨ x.1 = y.1 ∧ x.2 < y.2 := by
  unfold ltOf
  rw [decide_eq_true_eq]
  unfold spCmp cmpV
  split <;> split <;> (try split) <;> (try split) <;> (try split) <;> omega
theorem spLt_not (x y : Int × Int) : ltOf spCmp x y = false ↔ spLe y x := by
  rw [← Bool.not_eq_true, spLt_iff]; unfold spLe; omega
theorem spSWO : SWO (ltOf spCmp) where
  irrefl x := by rw [spLt_not]; unfold spLe; omega
  trans x y z h1 h2 := by rw [spLt_iff] at *; omega
  ntrans x y z h1 h2 := by rw [spLt_not] at *; unfold spLe at *; omega

theorem spC_at (L : List (Int × Int)) (j : Nat) (hj : j < L.length * 2) : (spC L)[j]? = some (flatK encSp 2 L.toArray)[j]! := by
  have hi : j / 2 < L.length := by omega
  have h1 := flat_at encSp 2 L (fun _ _ => rfl) (j / 2) L[j / 2] (List.getElem?_eq_getElem hi) (j % 2) (by omega)
  rw [show j / 2 * 2 + j % 2 = j by omega] at h1
  unfold spC
  rw [h1, get_flatK encSp 2 L.toArray j (by simpa using hj), getElem!_pos L.toArray (j / 2) (by simpa using hi)]
  simp only [List.getElem_toArray]
  have h2 : j % 2 < (encSp L[j / 2]).length := by show j % 2 < 2; omega
  rw [List.getElem?_eq_getElem h2, getElem!_pos (encSp L[j / 2]) (j % 2) h2]
theorem spC_len (L : List (Int × Int)) : (spC L).length = L.length * 2 := by
  induction L with
  | nil => rfl
  | cons x t ih => show (encSp x ++ spC t).length = _; rw [List.length_append, ih]; show 2 + _ = (t.length + 1) * 2; omega

theorem sortSp_any {w0 w : World} {B : Nat} {v : Value} {L : List (Int × Int)} (ho : w.ownsRow B 34 2 v L.length (spC L)) (hb : Below B w0 w) (hB : B ≤ w.heap.size) (hn : L.length ≤ 1000000) :
    Calls Tryz.prog 53 #[v, .func (.func 54) #[] #[]] w fun e w' => e = .returned (.tuple #[]) ∧ ∃ L' : List (Int × Int), L'.Perm L ∧ L'.Pairwise spLe ∧ w'.ownsRow B 34 2 v L'.length (spC L') ∧ Below B w0 w' := by
  obtain ⟨hl, ⟨rfl, h0⟩ | ⟨g, cap, cur, rfl, hg, hgs, hnc, hcm, hcs, htk⟩⟩ := ho
  · obtain rfl := List.eq_nil_of_length_eq_zero h0
    have h := AnyF.slices_SortFunc_none Tryz.laySortSp none 0 (.func (.func 54) #[] #[]) w
    change Calls Tryz.prog 53 _ _ _ at h
    refine h.mono ?_
    rintro e w' ⟨rfl, rfl⟩
    exact ⟨rfl, [], .nil, .nil, World.ownsRow_nil _ _ _ _, hb⟩
  · have hlt : g < w.heap.size := (Array.getElem?_eq_some_iff.1 hgs).1
    have hcj : ∀ j, j < L.length * 2 → cur[j]? = some (flatK encSp 2 L.toArray)[j]! := fun j hj => by
      have h1 : (cur.toList.take (L.length * 2))[j]? = (spC L)[j]? := by rw [htk]
      rw [List.getElem?_take, if_pos hj, Array.getElem?_toList, spC_at L j hj] at h1
      exact h1
    have hH : HoldsK encSp 2 w g 0 L.toArray := fun j hj => by
      have hj2 : j < L.length * 2 := by simpa using hj
      refine ⟨?_, by simp [World.frozen?, hgs]⟩
      simp only [World.cell?, hgs, Nat.zero_add]
      simp only [Option.isSome_none, Bool.false_eq_true, if_false]
      exact hcj j hj2
    have h := AnyQ.slices_SortFunc Tryz.laySortSp 2 Tryz.isAgg34 Tryz.sizeOf34 encSp (fun _ => rfl) (fun x v hv => by simp [encSp] at hv; rcases hv with rfl | rfl <;> rfl) spCmp spSWO 54 #[] g 0 cap L.toArray w
      (enters_of Tryz.func54 (by kernel_rfl) rfl) (fun m os dk _ x y => less_any x y _) hH hlt (by simp; omega)
    change Calls Tryz.prog 53 _ _ _ at h
    rw [show L.toArray.size = L.length by simp] at h
    refine h.mono ?_
    rintro e w' ⟨rfl, d', n, os, hp, hs, rfl⟩
    obtain ⟨p1, -, p3⟩ := hp
    have p1' : d'.size = L.length := by simpa using p1
    have hp : d'.toList.Perm L := by
      rw [show d'.extract 0 L.length = d' by rw [← p1']; simp, show L.toArray.extract 0 L.length = L.toArray by simp] at p3
      simpa using p3
    have hdl : d'.toList.length = L.length := by simpa using p1'
    refine ⟨rfl, d'.toList, hp, ?_, ?_, ?_⟩
    · rw [List.pairwise_iff_getElem]
      intro i j hi hj hij
      have hj' : j < d'.size := by simpa using hj
      have := hs i j (Nat.zero_le _) hij (by omega)
      rw [getElem!_pos d' j hj', getElem!_pos d' i (by omega)] at this
      rw [spLt_not] at this
      simpa using this
    · rw [hdl]
      refine own_laterI (w := putRowK encSp 2 (Sort.ahead w n) g 0 d') ?_ (below_grow0 _ _)
      refine ⟨by rw [spC_len, hdl], .inr ⟨g, cap, putCells id 0 (flatK encSp 2 d') cur, rfl, hg, ?_, hnc, hcm, by simpa [putCells] using hcs, ?_⟩⟩
      · simp [putRowK, putRow, mapBlock, Sort.ahead, Array.getElem?_modify, hgs, onCells]
      · apply List.ext_getElem?
        intro j
        rw [List.getElem?_take, Array.getElem?_toList]
        by_cases hj : j < L.length * 2
        · rw [if_pos hj]
          have hjc : j < cur.size := by have := Nat.mul_le_mul_right 2 hnc; omega
          have hd2 : spC d'.toList = spC d'.toList := rfl
          rw [spC_at d'.toList j (by omega)]
          simp only [putCells, Array.getElem?_mapIdx, Array.getElem?_eq_getElem hjc, Option.map_some]
          rw [if_pos (by rw [size_flatK]; omega)]
          simp
        · rw [if_neg hj, List.getElem?_eq_none (by rw [spC_len]; omega)]
    · refine (Lib.below_putRow (enc := id) (q := n) (d := flatK encSp 2 d') hb hg).trans ((below_grow0 _ _).mono ?_)
      simp [putRowK, putRow, mapBlock, Sort.ahead]; omega
end Go.Proofs.YtechgcjdigpglaaGreat
