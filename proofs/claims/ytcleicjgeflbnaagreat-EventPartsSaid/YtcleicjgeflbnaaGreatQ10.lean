/- event.member. Conditions: the zone may be, the time is a stamp. -/
import Derived.Test.YtcleicjgeflbnaaGreatQ9
import Derived.Test.YtcleicjgeflbnaaGreatZ7
namespace Go.Proofs.YtcleicjgeflbnaaGreat
open Go.RowKit Go.ChangeShapes Go.WideShapes Go.Deep
set_option linter.all false

def encSp (s : Int × Int) : List Value := [.int .i64 s.1, .int .i64 s.2]
def spC (l : List (Int × Int)) : List Value := l.flatMap encSp
theorem spC_append (a b : List (Int × Int)) : spC (a ++ b) = spC a ++ spC b := by simp [spC]
theorem infoSpan : (Tryz.prog.info? 34).map (fun i => (i.zero, i.size, i.bytes)) = some (some (.agg #[.int .i64 0, .int .i64 0]), 2, 16) := by kernel_rfl
theorem underSpans : Tryz.prog.underlying 38 = some (.slice 34) := by kernel_rfl

/-- The member of a time, if it meets the window. -/
def memF (z : ZoneD) (at_ long from_ to_ : Int) : List (Int × Int) :=
  if (0 ≤ atZ z at_ ∧ atZ z at_ ≤ 158310720) ∧ long ≠ 0 ∧ atZ z at_ < to_ ∧ from_ < atZ z at_ + long then [(atZ z at_, atZ z at_ + long)] else []

set_option maxHeartbeats 8000000 in
set_option maxRecDepth 100000 in
theorem member_any {w0 : World} {B : Nat} (cs : List Value) (z : ZoneD) (at_ long from_ to_ : Int) (v : Value) (L : List (Int × Int)) (w : World) (h : rZone w cs z) (hm : mayZ z) (ha0 : 0 ≤ at_) (ha1 : at_ < 158310720) (hl0 : 0 ≤ long) (hl1 : long ≤ 10080)
    (ho : w.ownsRow B 34 2 v L.length (spC L)) (hb : Below B w0 w) (hB : B ≤ w.heap.size) (hn : L.length ≤ 1000000) :
    Calls Tryz.prog 31 #[v, .agg cs.toArray, .int .i64 at_, .int .i64 long, .agg #[.int .i64 from_, .int .i64 to_]] w fun e w' => ∃ v', e = .returned v' ∧ w'.ownsRow B 34 2 v' (L ++ memF z at_ long from_ to_).length (spC (L ++ memF z at_ long from_ to_)) ∧ Below B w0 w' := by
  obtain ⟨i0, hi, hz0, hz1, hz2⟩ := info_parts infoSpan
  have SZ := Lib.hid h
  obtain ⟨t, rfl, -, ht⟩ := h
  obtain ⟨o, nn, c, rfl, -, -, -, -⟩ := ht.open
  have Y0 := Lib.hid (show Below w.heap.size w ((w.alloc (.cells #[.int .i64 z.base, .slice o nn c] 24)).alloc (.cells #[.int .i64 from_, .int .i64 to_] 34)) from belowA _ (belowA _ (Below.refl _ _)))
  have x0 := BxAt.new (w.alloc (.cells #[.int .i64 z.base, .slice o nn c] 24)) #[.int .i64 from_, .int .i64 to_] 34
  rw [show (w.alloc (.cells #[.int .i64 z.base, .slice o nn c] 24)).heap.size = w.heap.size + 1 by simp] at x0
  have X0 := Lib.hid x0
  clear x0
  have CU := Lib.hid (utc_yes _ z at_ _ (SZ.out.later Y0.out) hm (by omega) (by omega))
  have HO := Lib.hid ho
  have HB := Lib.hid (And.intro hb hB)
  obtain ⟨A, hA⟩ : ∃ A, A = atZ z at_ := ⟨_, rfl⟩
  have hMF : memF z at_ long from_ to_ = if (0 ≤ A ∧ A ≤ 158310720) ∧ long ≠ 0 ∧ A < to_ ∧ from_ < A + long then [(A, A + long)] else [] := by rw [hA]; rfl
  have hUV : ∀ k, utcV z at_ k = if 0 ≤ A ∧ A ≤ 158310720 then .tuple #[.int .i64 A, .int .i64 k, .bool true] else .tuple #[.int .i64 0, .int .i64 0, .bool false] := fun k => by rw [hA]; rfl
  have HUV := Lib.hid hUV
  obtain ⟨M, hM⟩ : ∃ M, M = memF z at_ long from_ to_ := ⟨_, rfl⟩
  rw [← hM] at hMF ⊢
  have HMF := Lib.hid hMF
  have hkeep : ¬ ((0 ≤ A ∧ A ≤ 158310720) ∧ long ≠ 0 ∧ A < to_ ∧ from_ < A + long) → ∀ w', Below w.heap.size w w' → w'.ownsRow B 34 2 v (L ++ M).length (spC (L ++ M)) ∧ Below B w0 w' := fun hP w' hw => by
    rw [HMF.out, if_neg hP, List.append_nil]
    exact ⟨own_laterI HO.out hw, HB.out.1.trans (hw.mono HB.out.2)⟩
  have HK := Lib.hid hkeep
  clear hkeep hMF hM hUV hA ht ho hb hB hm
  have d0 : ∀ (x : Int), 0 ≤ x → x ≤ 158310720 → IntKind.i64.wrap (x + long) = x + long := fun x h0 h1 => by rw [IntKind.wrap_i64]; omega
  have D0 := Lib.hid d0
  clear d0
  by_cases hin : 0 ≤ A ∧ A ≤ 158310720
  · have hw1 := D0.out A hin.1 hin.2
    have hw2 : wrap64 (A + long) = A + long := by unfold wrap64; omega
    have HIN := Lib.hid hin
    by_cases hl : long = 0
    · have b1 : (long == 0) = true := by simpa using hl
      have HN := Lib.hid (HK.out (fun h => h.2.1 hl))
      clear hin hl
      go_enter Tryz.func31, Tryz.ntmps31
      go_wp2_with fail
      (with_reducible refine CU.out.mono ?_)
      rintro q w1 ⟨⟨k, rfl⟩, hb1⟩
      rw [HUV.out k, if_pos HIN.out]
      have HB1 := Lib.hid (Y0.out.trans (hb1.mono Y0.out.size))
      have X1 := Lib.hid (X0.out.below hb1)
      have kA := X1.out.cell
      clear hb1
      go_wp2_with fail
      go_ret
      exact ⟨v, rfl, HN.out _ (belowA _ HB1.out)⟩
    · have b1 : (long == 0) = false := by simpa using hl
      by_cases h1 : to_ ≤ A
      · have d1 := decide_eq_true h1
        have HN := Lib.hid (HK.out (fun h => by omega))
        clear hin hl h1
        go_enter Tryz.func31, Tryz.ntmps31
        go_wp2_with fail
        (with_reducible refine CU.out.mono ?_)
        rintro q w1 ⟨⟨k, rfl⟩, hb1⟩
        rw [HUV.out k, if_pos HIN.out]
        have HB1 := Lib.hid (Y0.out.trans (hb1.mono Y0.out.size))
        have X1 := Lib.hid (X0.out.below hb1)
        have kA := X1.out.cell
        have lA := X1.out.lt
        clear hb1
        go_wp2_with fail
        go_ret
        exact ⟨v, rfl, HN.out _ (belowA _ HB1.out)⟩
      · have d1 := decide_eq_false h1
        by_cases h2 : A + long ≤ from_
        · have d2 := decide_eq_true h2
          have HN := Lib.hid (HK.out (fun h => by omega))
          clear hin hl h1 h2
          go_enter Tryz.func31, Tryz.ntmps31
          go_wp2_with fail
          (with_reducible refine CU.out.mono ?_)
          rintro q w1 ⟨⟨k, rfl⟩, hb1⟩
          rw [HUV.out k, if_pos HIN.out]
          have HB1 := Lib.hid (Y0.out.trans (hb1.mono Y0.out.size))
          have X1 := Lib.hid (X0.out.below hb1)
          have kA := X1.out.cell
          have lA := X1.out.lt
          clear hb1
          go_wp2_with fail
          go_ret
          exact ⟨v, rfl, HN.out _ (belowA _ HB1.out)⟩
        · have d2 := decide_eq_false h2
          have HG := Lib.hid (show M = [(A, A + long)] by rw [HMF.out]; exact if_pos ⟨hin, hl, by omega, by omega⟩)
          clear hin hl h1 h2
          go_enter Tryz.func31, Tryz.ntmps31
          go_wp2_with fail
          (with_reducible refine CU.out.mono ?_)
          rintro q w1 ⟨⟨k, rfl⟩, hb1⟩
          rw [HUV.out k, if_pos HIN.out]
          have HB1 := Lib.hid (Y0.out.trans (hb1.mono Y0.out.size))
          have X1 := Lib.hid (X0.out.below hb1)
          have kA := X1.out.cell
          have lA := X1.out.lt
          clear hb1
          have HOW := Lib.hid (own_laterI HO.out HB1.out)
          have hBw : B ≤ w1.heap.size := Nat.le_trans HB.out.2 HB1.out.size
          go_wp2_with (at_builtin; refine wpList_append_own ((w1.alloc (.cells #[.int .i64 A, .int .i64 (A + long)] 34)).alloc (.cells #[.int .i64 A, .int .i64 (A + long)] 34)) rfl (.tmp 48) (.tmp 50) 38 rfl B 34 i0 (.agg #[.int .i64 0, .int .i64 0]) 2 16 underSpans hi hz0 hz1 hz2 rfl (by decide) v L.length (spC L) rfl ((HOW.out.alloc _).alloc _) ⟨w1.heap.size + 1, 0, none⟩ 1 1 [.int .i64 A, .int .i64 (A + long)] rfl rfl ?c1 ?c2 ?c3 ?c4 ?c5 ?_)
          case c1 =>
            intro j u hj
            match j, hj with
            | 0, hj => simp at hj; subst hj; simp [Addr.add]
            | 1, hj => simp at hj; subst hj; simp [Addr.add]
            | (_ + 2), hj => simp at hj
          case c2 => intro u hu; simp at hu; rcases hu with rfl | rfl <;> rfl
          case c3 => unfold maxLen; omega
          case c4 => omega
          case c5 => simp; omega
          intro v' w4 hown hgrow _
          have HBW := Lib.hid (show Below B w0 w1 from HB.out.1.trans (HB1.out.mono HB.out.2))
          have HB4 := Lib.hid (((HBW.out.alloc hBw (.cells #[.int .i64 A, .int .i64 (A + long)] 34)).alloc (by simp; omega) (.cells #[.int .i64 A, .int .i64 (A + long)] 34)).grown hgrow (by simp; omega) (fun j hj => (HO.out.lt j hj).1))
          have HO4 := Lib.hid hown
          clear hown hgrow
          go_wp2_with fail
          go_ret
          exact ⟨v', rfl, by rw [HG.out, spC_append, List.length_append]; exact HO4.out, HB4.out⟩
  · have HN := Lib.hid (HK.out (fun h => hin h.1))
    have HIN := Lib.hid hin
    have hw1 := D0.out 0 (by decide) (by decide)
    have hw2 : wrap64 (0 + long) = 0 + long := by unfold wrap64; omega
    have hw3 : wrap64 long = long := by unfold wrap64; omega
    have hw4 : IntKind.i64.wrap long = long := by rw [IntKind.wrap_i64]; omega
    clear hin
    go_enter Tryz.func31, Tryz.ntmps31
    go_wp2_with fail
    (with_reducible refine CU.out.mono ?_)
    rintro q w1 ⟨⟨k, rfl⟩, hb1⟩
    rw [HUV.out k, if_neg HIN.out]
    have HB1 := Lib.hid (Y0.out.trans (hb1.mono Y0.out.size))
    clear hb1
    go_wp2_with fail
    go_ret
    exact ⟨v, rfl, HN.out _ (belowA _ HB1.out)⟩
end Go.Proofs.YtcleicjgeflbnaaGreat
