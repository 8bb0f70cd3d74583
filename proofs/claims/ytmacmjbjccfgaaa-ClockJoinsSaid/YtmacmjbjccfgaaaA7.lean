/- ReadMinute, the document's Minute and ReadMinute: part of the proof of the laws of layer 3. Conditions: each theorem's own. -/
import Derived.Test.YtmacmjbjccfgaaaA6
import Derived.WalkSpells
namespace Go.Proofs.Ytmacmjbjccfgaaa
open Go.RowKit

theorem numB_bd (l : List UInt8) : ∀ (acc n : Int), 0 ≤ acc → numB l acc = some n → 0 ≤ n ∧ n < (acc + 1) * 10 ^ l.length := by
  induction l with
  | nil => intro acc n h e; simp [numB] at e; subst e; simp; omega
  | cons c l ih =>
    intro acc n h e
    rw [numB] at e
    split at e
    · have := ih _ _ (by omega) e
      refine ⟨this.1, ?_⟩
      rw [List.length_cons, Int.pow_succ]
      have h9 : (10 * acc + ((c.toNat : Int) - 48) + 1) ≤ (acc + 1) * 10 := by omega
      have hp : (0 : Int) ≤ 10 ^ l.length := Int.le_of_lt (Int.pow_pos (by omega))
      have := Int.mul_le_mul_of_nonneg_right h9 hp
      rw [Int.mul_assoc, Int.mul_comm 10 (10 ^ l.length)] at this
      omega
    · simp at e

theorem numV_bd (s : ByteArray) (h : s.size ≤ 4) : 0 ≤ (numV s).1 ∧ (numV s).1 ≤ 9999 := by
  unfold numV
  split
  · rename_i n e
    have := numB_bd _ _ _ (by omega) e
    have hp : (10 : Int) ^ s.data.toList.length ≤ 10 ^ 4 := by
      have : (10 : Nat) ^ s.data.toList.length ≤ 10 ^ 4 := Nat.pow_le_pow_right (by omega) (by simpa using h)
      exact_mod_cast this
    simp only [Int.zero_add, Int.one_mul] at this
    have : (10 : Int) ^ 4 = 10000 := by decide
    omega
  · simp

def rmF (s : ByteArray) : Int × Bool :=
  if s.size = 5 ∧ (s.data.toList.getD 2 0).toNat = 58 ∧ (numV (s.extract 0 2)).2 = true ∧ (numV (s.extract 3 5)).2 = true ∧ (numV (s.extract 3 5)).1 ≤ 59 ∧ 60 * (numV (s.extract 0 2)).1 + (numV (s.extract 3 5)).1 ≤ 1440
  then (60 * (numV (s.extract 0 2)).1 + (numV (s.extract 3 5)).1, true) else (0, false)

theorem rm_ret {s : ByteArray} {n : Int} {b : Bool} (h : rmF s = (n, b)) :
    Ending.returned (.tuple #[.int .i64 n, .bool b]) = Ending.returned (.tuple #[.int .i64 (rmF s).1, .bool (rmF s).2]) := by rw [h]

theorem getD_get (s : ByteArray) (i : Nat) (h : i < s.size) : s.data.toList.getD i 0 = s[i] := by
  have h' : i < s.data.toList.length := by simpa using h
  simp [List.getD, List.getElem?_eq_getElem h']; rfl

set_option maxHeartbeats 4000000 in
theorem readMin_any (s : ByteArray) (w : World) :
    Calls Try.prog 12 #[.string s] w fun e w' => e = .returned (.tuple #[.int .i64 (rmF s).1, .bool (rmF s).2]) ∧ Below w.heap.size w w' := by
  by_cases h5 : s.size = 5
  · have hg := getD_get s 2 (by omega)
    by_cases h2 : (s[2]'(by omega)).toNat = 58
    · obtain ⟨x, o1, e1⟩ : ∃ x o, numV (s.extract 0 2) = (x, o) := ⟨_, _, rfl⟩
      obtain ⟨y, o2, e2⟩ : ∃ x o, numV (s.extract 3 5) = (x, o) := ⟨_, _, rfl⟩
      have D1 := Lib.hid (fun w => number_any (s.extract 0 2) (by simp; omega) w)
      have D2 := Lib.hid (fun w => number_any (s.extract 3 5) (by simp; omega) w)
      have b1 := numV_bd (s.extract 0 2) (by simp; omega)
      have b2 := numV_bd (s.extract 3 5) (by simp; omega)
      rw [e1] at D1 b1
      rw [e2] at D2 b2
      have hF : rmF s = if o1 = true ∧ o2 = true ∧ y ≤ 59 ∧ 60 * x + y ≤ 1440 then (60 * x + y, true) else (0, false) := by
        unfold rmF; rw [e1, e2, hg]; simp [h5, h2]
      obtain ⟨b3, b4⟩ := b1
      obtain ⟨b5, b6⟩ := b2
      simp only at b3 b4 b5 b6
      by_cases hok : o1 = true ∧ o2 = true ∧ y ≤ 59 ∧ 60 * x + y ≤ 1440
      · rw [if_pos hok] at hF
        have HF := Lib.hid hF
        obtain ⟨rfl, rfl, hy, hz⟩ := hok
        have hy' : ¬ 59 < y := by omega
        have hz' : ¬ 1440 < 60 * x + y := by omega
        clear hF e1 e2 hg

        go_enter Try.func12, Try.ntmps12
        go_wp2_with fail
        (with_reducible refine (D1.out _).mono ?_)
        rintro e w1 ⟨rfl, hb1⟩
        go_wp2_with fail
        (with_reducible refine (D2.out _).mono ?_)
        rintro e w2 ⟨rfl, hb2⟩
        go_wp2_with fail
        go_ret2
        exact ⟨rm_ret HF.out, below_call hb1 hb2⟩
      · rw [if_neg hok] at hF
        have HF := Lib.hid hF
        have Hok := Lib.hid hok
        clear hF e1 e2 hg hok
        go_enter Try.func12, Try.ntmps12
        go_wp2_with fail
        (with_reducible refine (D1.out _).mono ?_)
        rintro e w1 ⟨rfl, hb1⟩
        go_wp2_with fail
        (with_reducible refine (D2.out _).mono ?_)
        rintro e w2 ⟨rfl, hb2⟩
        go_wp2_with fail
        all_goals first
          | (go_ret2; exact ⟨rm_ret HF.out, below_call hb1 hb2⟩)
          | (exfalso; apply Hok.out; simp_all)
    · have hF : rmF s = (0, false) := by unfold rmF; rw [hg, if_neg (by simp [h2])]
      have HF := Lib.hid hF
      clear hF hg
      go_enter Try.func12, Try.ntmps12
      go_wp2
      go_ret2
      exact ⟨rm_ret HF.out, Below.refl _ _⟩
  · have hF : rmF s = (0, false) := by unfold rmF; rw [if_neg (by simp [h5])]
    have HF := Lib.hid hF
    clear hF
    have h' : (s.size == 5) = false := by simp [h5]
    go_enter Try.func12, Try.ntmps12
    go_wp2
    go_ret2
    exact ⟨rm_ret HF.out, Below.refl _ _⟩
end Go.Proofs.Ytmacmjbjccfgaaa
