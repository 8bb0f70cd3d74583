/- ref11.member. Conditions: the zone may be, the time is a stamp. -/
import Derived.Test.YtechgcjdigpglaaGreatU10
import Derived.Test.YtechgcjdigpglaaGreatU21
namespace Go.Proofs.YtechgcjdigpglaaGreat
open Go.RowKit Go.ChangeShapes Go.WideShapes Go.Deep
set_option linter.all false

set_option maxHeartbeats 8000000 in
set_option maxRecDepth 100000 in
theorem refMember_any {B : Nat} (cs : List Value) (z : ZoneD) (at_ long from_ to_ : Int) (v : Value) (L : List (Int × Int)) (w : World) (h : rZone w cs z) (hm : mayZ z) (hnz : z.turns.length ≤ 1000) (ha0 : 0 ≤ at_) (ha1 : at_ < 158310720) (hl0 : 0 ≤ long) (hl1 : long ≤ 10080)
    (ho : w.ownsRow B 34 2 v L.length (spC L)) (hB : B ≤ w.heap.size) (hv : v ≠ .slice none 0 0) (hs : L.Pairwise spLe) (hn : L.length ≤ 1000000) :
    Calls Tryz.prog 59 #[v, .agg cs.toArray, .int .i64 at_, .int .i64 long, .agg #[.int .i64 from_, .int .i64 to_]] w fun e w' => ∃ v' M, e = .returned v' ∧ M.Perm (memF z at_ long from_ to_ ++ L) ∧ M.Pairwise spLe ∧ v' ≠ .slice none 0 0 ∧ w'.ownsRow B 34 2 v' M.length (spC M) ∧ Below w.heap.size w w' := by
  have SZ := Lib.hid h
  obtain ⟨t, rfl, -, ht⟩ := h
  obtain ⟨o, nn, c, rfl, -, -, -, -⟩ := ht.open
  have Y0 := Lib.hid (show Below w.heap.size w ((w.alloc (.cells #[.int .i64 z.base, .slice o nn c] 24)).alloc (.cells #[.int .i64 from_, .int .i64 to_] 34)) from belowA _ (belowA _ (Below.refl _ _)))
  have x0 := BxM.new (w.alloc (.cells #[.int .i64 z.base, .slice o nn c] 24)) #[.int .i64 from_, .int .i64 to_] 34
  rw [show (w.alloc (.cells #[.int .i64 z.base, .slice o nn c] 24)).heap.size = w.heap.size + 1 by simp] at x0
  have X0 := Lib.hid x0
  clear x0
  have CU := Lib.hid (refUtc_any _ z at_ _ (SZ.out.later Y0.out) hnz)
  have HO := Lib.hid ho
  have HSO := Lib.hid hs
  have HNV := Lib.hid hv
  obtain ⟨A, hA⟩ : ∃ A, A = atZ z at_ := ⟨_, rfl⟩
  have hMF : memF z at_ long from_ to_ = if (0 ≤ A ∧ A ≤ 158310720) ∧ long ≠ 0 ∧ A < to_ ∧ from_ < A + long then [(A, A + long)] else [] := by rw [hA]; rfl
  obtain ⟨M, hM⟩ : ∃ M, M = memF z at_ long from_ to_ := ⟨_, rfl⟩
  rw [← hM] at hMF ⊢
  have HMF := Lib.hid hMF
  by_cases hin : 0 ≤ A ∧ A ≤ 158310720
  · have HUV := Lib.hid (show ∀ k, refUV z at_ k = .agg #[.int .i64 A, .int .i64 k, .bool false] from fun k => by rw [hA]; exact refUV_t ⟨hm, by omega, by omega, by rw [← hA]; exact hin.1, by rw [← hA]; exact hin.2⟩)
    have hw1 : IntKind.i64.wrap (A + long) = A + long := by rw [IntKind.wrap_i64]; omega
    have hw2 : wrap64 (A + long) = A + long := by unfold wrap64; omega
    have HIN := Lib.hid hin
    clear hMF hM hA ht ho hm hs hv
    by_cases hl : long = 0
    · have b1 : (long == 0) = true := by simpa using hl
      have HN := Lib.hid (show L = M ++ L by rw [HMF.out, if_neg (fun h => h.2.1 hl)]; rfl)
      clear hin hl
      go_enter Tryz.func59, Tryz.ntmps59
      go_wp2_with fail
      (with_reducible refine CU.out.mono ?_)
      rintro q w1 ⟨⟨k, rfl⟩, hb1⟩
      rw [HUV.out k]
      have HB1 := Lib.hid (Y0.out.trans (hb1.mono Y0.out.size))
      have X1 := Lib.hid ((X0.out.below hb1).alloc (.cells #[.int .i64 A, .int .i64 k, .bool false] 46))
      have XU := Lib.hid (BxM.new w1 #[.int .i64 A, .int .i64 k, .bool false] 46)
      have HB2 := Lib.hid (belowA (.cells #[.int .i64 A, .int .i64 k, .bool false] 46) HB1.out)
      have kA := X1.out.cell
      have kU := XU.out.cell
      clear hb1
      go_wp2_with fail
      go_ret
      exact ⟨v, L, rfl, HN.out ▸ List.Perm.refl _, HSO.out, HNV.out, own_laterI HO.out HB2.out, HB2.out⟩
    · have b1 : (long == 0) = false := by simpa using hl
      by_cases h1 : to_ ≤ A
      · have d1 := decide_eq_true h1
        have HN := Lib.hid (show L = M ++ L by rw [HMF.out, if_neg (fun h => by omega)]; rfl)
        clear hin hl h1
        go_enter Tryz.func59, Tryz.ntmps59
        go_wp2_with fail
        (with_reducible refine CU.out.mono ?_)
        rintro q w1 ⟨⟨k, rfl⟩, hb1⟩
        rw [HUV.out k]
        have HB1 := Lib.hid (Y0.out.trans (hb1.mono Y0.out.size))
        have X1 := Lib.hid ((X0.out.below hb1).alloc (.cells #[.int .i64 A, .int .i64 k, .bool false] 46))
        have XU := Lib.hid (BxM.new w1 #[.int .i64 A, .int .i64 k, .bool false] 46)
        have HB2 := Lib.hid (belowA (.cells #[.int .i64 A, .int .i64 k, .bool false] 46) HB1.out)
        have kA := X1.out.cell
        have kU := XU.out.cell
        clear hb1
        go_wp2_with fail
        go_ret
        exact ⟨v, L, rfl, HN.out ▸ List.Perm.refl _, HSO.out, HNV.out, own_laterI HO.out HB2.out, HB2.out⟩
      · have d1 := decide_eq_false h1
        by_cases h2 : A + long ≤ from_
        · have d2 := decide_eq_true h2
          have HN := Lib.hid (show L = M ++ L by rw [HMF.out, if_neg (fun h => by omega)]; rfl)
          clear hin hl h1 h2
          go_enter Tryz.func59, Tryz.ntmps59
          go_wp2_with fail
          (with_reducible refine CU.out.mono ?_)
          rintro q w1 ⟨⟨k, rfl⟩, hb1⟩
          rw [HUV.out k]
          have HB1 := Lib.hid (Y0.out.trans (hb1.mono Y0.out.size))
          have X1 := Lib.hid ((X0.out.below hb1).alloc (.cells #[.int .i64 A, .int .i64 k, .bool false] 46))
          have XU := Lib.hid (BxM.new w1 #[.int .i64 A, .int .i64 k, .bool false] 46)
          have HB2 := Lib.hid (belowA (.cells #[.int .i64 A, .int .i64 k, .bool false] 46) HB1.out)
          have kA := X1.out.cell
          have kU := XU.out.cell
          clear hb1
          go_wp2_with fail
          go_ret
          exact ⟨v, L, rfl, HN.out ▸ List.Perm.refl _, HSO.out, HNV.out, own_laterI HO.out HB2.out, HB2.out⟩
        · have d2 := decide_eq_false h2
          have HG := Lib.hid (show M = [(A, A + long)] by rw [HMF.out]; exact if_pos ⟨hin, hl, by omega, by omega⟩)
          clear hin hl h1 h2
          go_enter Tryz.func59, Tryz.ntmps59
          go_wp2_with fail
          (with_reducible refine CU.out.mono ?_)
          rintro q w1 ⟨⟨k, rfl⟩, hb1⟩
          rw [HUV.out k]
          have HB1 := Lib.hid (Y0.out.trans (hb1.mono Y0.out.size))
          have X1 := Lib.hid ((X0.out.below hb1).alloc (.cells #[.int .i64 A, .int .i64 k, .bool false] 46))
          have XU := Lib.hid (BxM.new w1 #[.int .i64 A, .int .i64 k, .bool false] 46)
          have HB2 := Lib.hid (belowA (.cells #[.int .i64 A, .int .i64 k, .bool false] 46) HB1.out)
          have kA := X1.out.cell
          have kU := XU.out.cell
          clear hb1
          have CP := Lib.hid (put_any v L A (A + long) _ (own_laterI HO.out HB2.out) HNV.out HSO.out hn)
          go_wp2_with fail
          (with_reducible refine CP.out.mono ?_)
          rintro q2 w3 ⟨v', M', rfl, hp, hs', hv', ho', hb'⟩
          have HR := Lib.hid (And.intro hp (And.intro hs' (And.intro hv' (And.intro ho' hb'))))
          clear hp hs' hv' ho' hb'
          go_wp2_with fail
          go_ret
          obtain ⟨hp, hs', hv', ho', hb'⟩ := HR.out
          exact ⟨v', M', rfl, by rw [HG.out]; exact hp, hs', hv', own_base ho' (Nat.le_trans hB HB2.out.size), HB2.out.trans (hb'.mono HB2.out.size)⟩
  · have HUV := Lib.hid (show ∀ k, refUV z at_ k = .agg #[.int .i64 0, .int .i64 0, .bool true] from fun k => refUV_f (fun h => hin (by rw [hA]; exact ⟨h.2.2.2.1, h.2.2.2.2⟩)))
    have HN := Lib.hid (show L = M ++ L by rw [HMF.out, if_neg (fun h => hin h.1)]; rfl)
    clear hMF hM hA ht ho hm hs hv hin
    go_enter Tryz.func59, Tryz.ntmps59
    go_wp2_with fail
    (with_reducible refine CU.out.mono ?_)
    rintro q w1 ⟨⟨k, rfl⟩, hb1⟩
    rw [HUV.out k]
    have HB1 := Lib.hid (Y0.out.trans (hb1.mono Y0.out.size))
    have X1 := Lib.hid ((X0.out.below hb1).alloc (.cells #[.int .i64 0, .int .i64 0, .bool true] 46))
    have XU := Lib.hid (BxM.new w1 #[.int .i64 0, .int .i64 0, .bool true] 46)
    have HB2 := Lib.hid (belowA (.cells #[.int .i64 0, .int .i64 0, .bool true] 46) HB1.out)
    have kA := X1.out.cell
    have kU := XU.out.cell
    clear hb1
    go_wp2_with fail
    go_ret
    exact ⟨v, L, rfl, HN.out ▸ List.Perm.refl _, HSO.out, HNV.out, own_laterI HO.out HB2.out, HB2.out⟩
end Go.Proofs.YtechgcjdigpglaaGreat
