/- Walks of ReadStamp and of the document's; part of the proof of the laws of layer 3. Conditions: each theorem's own. -/
import Derived.Test.YtmacmjbjccfgaaaC5
namespace Go.Proofs.Ytmacmjbjccfgaaa
open Go.RowKit

instance validD_dec (y m d : Int) : Decidable (validD y m d) := by unfold validD; infer_instance

/-- What ReadStamp answers. -/
def rsF (s : ByteArray) : Int × Bool :=
  if s.size = 16 ∧ (s.data.toList.getD 4 0).toNat = 45 ∧ (s.data.toList.getD 7 0).toNat = 45 ∧ (s.data.toList.getD 10 0).toNat = 84 ∧
      (numV (s.extract 0 4)).2 = true ∧ (numV (s.extract 5 7)).2 = true ∧ (numV (s.extract 8 10)).2 = true ∧ (rmF (s.extract 11 16)).2 = true ∧
      validD (numV (s.extract 0 4)).1 (numV (s.extract 5 7)).1 (numV (s.extract 8 10)).1 ∧
      ¬ ((rmF (s.extract 11 16)).1 = 1440 ∧ numD (numV (s.extract 0 4)).1 (numV (s.extract 5 7)).1 (numV (s.extract 8 10)).1 < 109937)
  then (numD (numV (s.extract 0 4)).1 (numV (s.extract 5 7)).1 (numV (s.extract 8 10)).1 * 1440 + (rmF (s.extract 11 16)).1, true) else (0, false)

theorem rs_ret {s : ByteArray} {n : Int} {b : Bool} (h : rsF s = (n, b)) :
    Ending.returned (.tuple #[.int .i64 n, .bool b]) = Ending.returned (.tuple #[.int .i64 (rsF s).1, .bool (rsF s).2]) := by rw [h]

theorem rmF_bd (s : ByteArray) : 0 ≤ (rmF s).1 ∧ (rmF s).1 ≤ 1440 := by
  cases h : rmF s with
  | mk n b =>
    cases b with
    | true => have := rmF_true s n h; exact ⟨this.1, this.2.1⟩
    | false =>
      unfold rmF at h
      split at h
      · simp at h
      · simp at h; simp [← h]

theorem civilNumber_any (y m d : Int) (h0 : 0 ≤ y) (h1 : y ≤ 10000) (hm0 : 0 ≤ m) (hm1 : m ≤ 10000) (n : Int) (b : Bool)
    (h : (n, b) = if validD y m d then (numD y m d, true) else (0, false)) (w : World) :
    Calls Try.prog 29 #[.agg #[.int .i64 y, .int .i64 m, .int .i64 d]] w fun e w' => e = .returned (.tuple #[.int .i64 n, .bool b]) ∧ Below w.heap.size w w' := by
  by_cases hv : validD y m d
  · rw [if_pos hv] at h
    simp only [Prod.mk.injEq] at h
    obtain ⟨rfl, rfl⟩ := h
    exact number_yes y m d hv w
  · rw [if_neg hv] at h
    simp only [Prod.mk.injEq] at h
    obtain ⟨rfl, rfl⟩ := h
    exact number_no y m d h0 h1 hm0 hm1 hv w

set_option maxHeartbeats 8000000 in
theorem readStamp_any (s : ByteArray) (w : World) :
    Calls Try.prog 19 #[.string s] w fun e w' => e = .returned (.tuple #[.int .i64 (rsF s).1, .bool (rsF s).2]) ∧ Below w.heap.size w w' := by
  by_cases h16 : s.size = 16
  · have hg4 := getD_get s 4 (by omega)
    have hg7 := getD_get s 7 (by omega)
    have hg10 := getD_get s 10 (by omega)
    by_cases h4 : (s[4]'(by omega)).toNat = 45
    · by_cases h7 : (s[7]'(by omega)).toNat = 45
      · by_cases h10 : (s[10]'(by omega)).toNat = 84
        · obtain ⟨y, o1, e1⟩ : ∃ x o, numV (s.extract 0 4) = (x, o) := ⟨_, _, rfl⟩
          obtain ⟨m, o2, e2⟩ : ∃ x o, numV (s.extract 5 7) = (x, o) := ⟨_, _, rfl⟩
          obtain ⟨d, o3, e3⟩ : ∃ x o, numV (s.extract 8 10) = (x, o) := ⟨_, _, rfl⟩
          obtain ⟨t, o4, e4⟩ : ∃ x o, rmF (s.extract 11 16) = (x, o) := ⟨_, _, rfl⟩
          obtain ⟨n, o5, e5⟩ : ∃ n b, (n, b) = if validD y m d then (numD y m d, true) else ((0 : Int), false) := ⟨_, _, rfl⟩
          have D1 := Lib.hid (fun w => number_any (s.extract 0 4) (by simp; omega) w)
          have D2 := Lib.hid (fun w => number_any (s.extract 5 7) (by simp; omega) w)
          have D3 := Lib.hid (fun w => number_any (s.extract 8 10) (by simp; omega) w)
          have D4 := Lib.hid (fun w => readMin_any (s.extract 11 16) w)
          have b1 := numV_bd (s.extract 0 4) (by simp; omega)
          have b2 := numV_bd (s.extract 5 7) (by simp; omega)
          have b3 := numV_bd (s.extract 8 10) (by simp; omega)
          have b4 := rmF_bd (s.extract 11 16)
          rw [e1] at D1 b1
          rw [e2] at D2 b2
          rw [e3] at D3 b3
          rw [e4] at D4 b4
          obtain ⟨b11, b12⟩ := b1
          obtain ⟨b21, b22⟩ := b2
          obtain ⟨b31, b32⟩ := b3
          obtain ⟨b41, b42⟩ := b4
          simp only at b11 b12 b21 b22 b31 b32 b41 b42
          have D5 := Lib.hid (fun w => civilNumber_any y m d b11 (by omega) b21 (by omega) n o5 e5 w)
          have hn5 : 0 ≤ n ∧ n < 109938 ∧ (o5 = true ↔ validD y m d) ∧ (o5 = true → n = numD y m d) := by
            by_cases hv : validD y m d
            · have := numD_bd y m d hv (valid_month y m d hv)
              rw [if_pos hv] at e5
              simp only [Prod.mk.injEq] at e5
              obtain ⟨rfl, rfl⟩ := e5
              exact ⟨this.1, this.2, by simp [hv], fun _ => rfl⟩
            · rw [if_neg hv] at e5
              simp only [Prod.mk.injEq] at e5
              obtain ⟨rfl, rfl⟩ := e5
              exact ⟨by omega, by omega, by simp [hv], fun h => by simp at h⟩
          obtain ⟨n1, n2, n3, n4⟩ := hn5
          have hF : rsF s = if o1 = true ∧ o2 = true ∧ o3 = true ∧ o4 = true ∧ o5 = true ∧ ¬ (t = 1440 ∧ n < 109937) then (n * 1440 + t, true) else (0, false) := by
            unfold rsF; rw [e1, e2, e3, e4, hg4, hg7, hg10]
            by_cases hv : validD y m d
            · have ho := n3.2 hv
              have := n4 ho
              subst this ho
              simp [h16, h4, h7, h10, hv]
            · have ho : o5 = false := by cases o5 with
                | false => rfl
                | true => exact absurd (n3.1 rfl) hv
              simp [h16, h4, h7, h10, hv, ho]
          clear e1 e2 e3 e4 e5 hg4 hg7 hg10 n3 n4
          by_cases hok : o1 = true ∧ o2 = true ∧ o3 = true ∧ o4 = true ∧ o5 = true ∧ ¬ (t = 1440 ∧ n < 109937)
          · rw [if_pos hok] at hF
            have HF := Lib.hid hF
            obtain ⟨rfl, rfl, rfl, rfl, rfl, hlast⟩ := hok
            clear hF
            by_cases ht : t = 1440
            · have hnn : ¬ n < 109937 := fun h => hlast ⟨ht, h⟩
              have ht' : (t == 1440) = true := by simp [ht]
              have Ht := Lib.hid ht
              clear ht hlast
              go_enter Try.func19, Try.ntmps19
              go_wp2_with fail
              (with_reducible refine (D1.out _).mono ?_); rintro e w1 ⟨rfl, hb1⟩
              go_wp2_with fail
              (with_reducible refine (D2.out _).mono ?_); rintro e w2 ⟨rfl, hb2⟩
              go_wp2_with fail
              (with_reducible refine (D3.out _).mono ?_); rintro e w3 ⟨rfl, hb3⟩
              go_wp2_with fail
              (with_reducible refine (D4.out _).mono ?_); rintro e w4 ⟨rfl, hb4⟩
              go_wp2_with fail
              (with_reducible refine (D5.out _).mono ?_); rintro e w5 ⟨rfl, hb5⟩
              go_wp2_with fail
              go_ret2
              exact ⟨rs_ret HF.out, below_call (below_call (below_call (below_call hb1 hb2) hb3 (by have := hb1.size; have := hb2.size; omega)) hb4 (by have := hb1.size; have := hb2.size; have := hb3.size; omega)) hb5⟩
            · have ht' : (t == 1440) = false := by simp [ht]
              clear ht hlast
              go_enter Try.func19, Try.ntmps19
              go_wp2_with fail
              (with_reducible refine (D1.out _).mono ?_); rintro e w1 ⟨rfl, hb1⟩
              go_wp2_with fail
              (with_reducible refine (D2.out _).mono ?_); rintro e w2 ⟨rfl, hb2⟩
              go_wp2_with fail
              (with_reducible refine (D3.out _).mono ?_); rintro e w3 ⟨rfl, hb3⟩
              go_wp2_with fail
              (with_reducible refine (D4.out _).mono ?_); rintro e w4 ⟨rfl, hb4⟩
              go_wp2_with fail
              (with_reducible refine (D5.out _).mono ?_); rintro e w5 ⟨rfl, hb5⟩
              go_wp2_with fail
              go_ret2
              exact ⟨rs_ret HF.out, below_call (below_call (below_call (below_call hb1 hb2) hb3 (by have := hb1.size; have := hb2.size; omega)) hb4 (by have := hb1.size; have := hb2.size; have := hb3.size; omega)) hb5⟩
          · rw [if_neg hok] at hF
            have HF := Lib.hid hF
            have Hok := Lib.hid hok
            clear hF hok
            go_enter Try.func19, Try.ntmps19
            go_wp2_with fail
            (with_reducible refine (D1.out _).mono ?_); rintro e w1 ⟨rfl, hb1⟩
            go_wp2_with fail
            (with_reducible refine (D2.out _).mono ?_); rintro e w2 ⟨rfl, hb2⟩
            go_wp2_with fail
            (with_reducible refine (D3.out _).mono ?_); rintro e w3 ⟨rfl, hb3⟩
            go_wp2_with fail
            (with_reducible refine (D4.out _).mono ?_); rintro e w4 ⟨rfl, hb4⟩
            go_wp2_with fail
            (with_reducible refine (D5.out _).mono ?_); rintro e w5 ⟨rfl, hb5⟩
            go_wp2_with fail
            all_goals first
              | (go_ret2; exact ⟨rs_ret HF.out, below_call (below_call (below_call (below_call hb1 hb2) hb3 (by have := hb1.size; have := hb2.size; omega)) hb4 (by have := hb1.size; have := hb2.size; have := hb3.size; omega)) hb5⟩)
              | (exfalso; apply Hok.out; simp_all)
        · have hF : rsF s = (0, false) := by unfold rsF; rw [hg10, if_neg (by simp [h10])]
          have HF := Lib.hid hF
          clear hF hg4 hg7 hg10
          go_enter Try.func19, Try.ntmps19
          go_wp2
          go_ret2
          exact ⟨rs_ret HF.out, Below.refl _ _⟩
      · have hF : rsF s = (0, false) := by unfold rsF; rw [hg7, if_neg (by simp [h7])]
        have HF := Lib.hid hF
        clear hF hg4 hg7 hg10
        go_enter Try.func19, Try.ntmps19
        go_wp2
        go_ret2
        exact ⟨rs_ret HF.out, Below.refl _ _⟩
    · have hF : rsF s = (0, false) := by unfold rsF; rw [hg4, if_neg (by simp [h4])]
      have HF := Lib.hid hF
      clear hF hg4 hg7 hg10
      go_enter Try.func19, Try.ntmps19
      go_wp2
      go_ret2
      exact ⟨rs_ret HF.out, Below.refl _ _⟩
  · have hF : rsF s = (0, false) := by unfold rsF; rw [if_neg (by simp [h16])]
    have HF := Lib.hid hF
    clear hF
    have h' : (s.size == 16) = false := by simp [h16]
    go_enter Try.func19, Try.ntmps19
    go_wp2
    go_ret2
    exact ⟨rs_ret HF.out, Below.refl _ _⟩
end Go.Proofs.Ytmacmjbjccfgaaa
