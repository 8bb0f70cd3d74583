/- Walks of the document's date functions; part of the proof of the laws of layer 3. Conditions: each theorem's own. -/
import Derived.Test.YtmacmjbjccfgaaaC2
import Derived.Deep.RegionHeld3
namespace Go.Proofs.Ytmacmjbjccfgaaa
open Go.RowKit

set_option maxHeartbeats 2000000 in
theorem refLength_any (y m : Int) (h0 : 0 ≤ y) (h1 : y ≤ 100000) (hm0 : 1 ≤ m) (hm1 : m ≤ 12) (w : World) :
    Calls Try.prog 36 #[.int .i64 y, .int .i64 m] w fun e w' => e = .returned (.int .i64 (lenM y m)) ∧ Below w.heap.size w w' := by
  have hm : m = 1 ∨ m = 2 ∨ m = 3 ∨ m = 4 ∨ m = 5 ∨ m = 6 ∨ m = 7 ∨ m = 8 ∨ m = 9 ∨ m = 10 ∨ m = 11 ∨ m = 12 := by omega
  have hl := leapN_b y
  have D := Lib.hid (fun w => refLeap_any y h0 h1 w)
  have HL := Lib.hid hl
  clear hl hm0 hm1
  cases hb : leapB y <;> rw [hb] at D HL <;> clear hb <;>
  (rcases hm with rfl | rfl | rfl | rfl | rfl | rfl | rfl | rfl | rfl | rfl | rfl | rfl <;>
  · go_enter Try.func36, Try.ntmps36
    go_wp2_with (go_at_call 35; (with_reducible refine (D.out _).mono ?_); rintro e w' ⟨rfl, rfl⟩)
    go_ret
    exact ⟨ret_i (by have := HL.out; simp [lenM, this]), (Below.refl _ _).alloc (Nat.le_refl _) _⟩)

set_option maxHeartbeats 4000000 in
theorem refMay_any (y m d : Int) (h0 : -1 ≤ y) (h1 : y ≤ 10000) (hm0 : -1 ≤ m) (hm1 : m ≤ 10000) (b : Bool) (hb : b = true ↔ validD y m d) (w : World) :
    Calls Try.prog 39 #[.agg #[.int .i64 y, .int .i64 m, .int .i64 d]] w fun e w' => e = .returned (.bool b) ∧ Below w.heap.size w w' := by
  have hbd := lenM_bd y m
  have hout := lenM_out y m
  by_cases v1 : 1900 ≤ y
  · by_cases v2 : y ≤ 2200
    · by_cases v4 : 1 ≤ m
      · by_cases v5 : m ≤ 12
        · by_cases v3 : 1 ≤ d
          · have hb' : b = decide (d ≤ lenM y m) := by
              rw [Bool.eq_iff_iff, hb, decide_eq_true_iff]; unfold validD; omega
            have Hb := Lib.hid hb'.symm
            clear hb hb' hout
            go_enter Try.func39, Try.ntmps39
            go_wp2
            go_region_held3 (fun W => W.cell? ⟨w.heap.size, 0, none⟩ = some (.int .i64 y) ∧ W.cell? ⟨w.heap.size, 1, none⟩ = some (.int .i64 m) ∧ W.cell? ⟨w.heap.size, 2, none⟩ = some (.int .i64 d) ∧ w.heap.size < W.heap.size ∧ Below w.heap.size w W)
              (first
                | exact ⟨by simp [go_sem], by simp [go_sem], by simp [go_sem], by simp, ((Below.refl _ _).alloc (Nat.le_refl _) _).drew⟩
                | (obtain ⟨q1, q2, q3, q4, q5⟩ := ‹_ ∧ _ ∧ _ ∧ _ ∧ Below _ _ _›; exact ⟨(hbb.cell (by exact q4)).trans q1, (hbb.cell (by exact q4)).trans q2, (hbb.cell (by exact q4)).trans q3, (by have := hbb.size; omega), below_call q5 hbb⟩))
              (first | (go_at_call 36; (with_reducible refine (refLength_any y m ?_ ?_ ?_ ?_ _).mono ?_); omega; omega; omega; omega; rintro e w' ⟨rfl, hbb⟩))
            go_wp2
            go_ret
            obtain ⟨q1, q2, q3, q4, q5⟩ := ‹_ ∧ _ ∧ _ ∧ _ ∧ Below _ _ _›
            exact ⟨ret_b Hb.out, q5⟩
          · have hb' : b = false := by
              rw [Bool.eq_false_iff]; intro e; have := hb.1 e; unfold validD at this; omega
            subst hb'
            have h3 : decide (1 ≤ d) = false := decide_eq_false v3
            clear hb hout
            go_enter Try.func39, Try.ntmps39
            go_wp2
            go_quiet (fail)
            go_wp2
            go_ret
            exact ⟨rfl, below_drewN ((Below.refl _ _).alloc (Nat.le_refl _) _) _⟩
        · have hb' : b = false := by
            rw [Bool.eq_false_iff]; intro e; have := hb.1 e; unfold validD at this; have := hout (by omega); omega
          subst hb'
          have h3 : decide (m ≤ 12) = false := decide_eq_false v5
          clear hb hout
          go_enter Try.func39, Try.ntmps39
          go_wp2
          go_quiet (fail)
          go_wp2
          go_ret
          exact ⟨rfl, below_drewN ((Below.refl _ _).alloc (Nat.le_refl _) _) _⟩
      · have hb' : b = false := by
          rw [Bool.eq_false_iff]; intro e; have := hb.1 e; unfold validD at this; have := hout (by omega); omega
        subst hb'
        have h3 : decide (1 ≤ m) = false := decide_eq_false v4
        clear hb hout
        go_enter Try.func39, Try.ntmps39
        go_wp2
        go_quiet (fail)
        go_wp2
        go_ret
        exact ⟨rfl, below_drewN ((Below.refl _ _).alloc (Nat.le_refl _) _) _⟩
    · have hb' : b = false := by
        rw [Bool.eq_false_iff]; intro e; have := hb.1 e; unfold validD at this; omega
      subst hb'
      have h3 : decide (y ≤ 2200) = false := decide_eq_false v2
      clear hb hout
      go_enter Try.func39, Try.ntmps39
      go_wp2
      go_quiet (fail)
      go_wp2
      go_ret
      exact ⟨rfl, below_drewN ((Below.refl _ _).alloc (Nat.le_refl _) _) _⟩
  · have hb' : b = false := by
      rw [Bool.eq_false_iff]; intro e; have := hb.1 e; unfold validD at this; omega
    subst hb'
    have h3 : decide (1900 ≤ y) = false := decide_eq_false v1
    clear hb hout
    go_enter Try.func39, Try.ntmps39
    go_wp2
    go_quiet (fail)
    go_wp2
    go_ret
    exact ⟨rfl, below_drewN ((Below.refl _ _).alloc (Nat.le_refl _) _) _⟩

def valV (s : ByteArray) : Int := match numB s.data.toList 0 with
  | some n => n
  | none => -1

set_option maxHeartbeats 2000000 in
theorem value_any (s : ByteArray) (hs : s.size ≤ 8) (w : World) :
    Calls Try.prog 31 #[.string s] w fun e w' => e = .returned (.int .i64 (valV s)) ∧ w = w' := by
  go_enter Try.func31, Try.ntmps31
  go_wp2
  go_loop [3, 4] (fun a b => ∃ (pos : Nat) (acc : Int), pos ≤ s.size ∧ a = .int .i64 acc ∧ b = .int .i64 pos ∧ 0 ≤ acc ∧ acc < 10 ^ pos ∧ numB s.data.toList 0 = numB (s.data.toList.drop pos) acc) (fun _ b => s.size - (intOf b).toNat)
  case atStart => exact ⟨0, 0, by omega, rfl, rfl, by omega, by omega, rfl⟩
  case round =>
    obtain ⟨pos, acc, hpos, rfl, rfl, ha0, ha1, hn⟩ := hrel
    have hp10 : (10 : Int) ^ pos ≤ 10 ^ 8 := by
      have : (10 : Nat) ^ pos ≤ 10 ^ 8 := Nat.pow_le_pow_right (by omega) (by omega)
      exact_mod_cast this
    have hacc : acc < 100000000 := by omega
    by_cases hp : pos < s.size
    · rw [drop_cons s pos hp] at hn
      have h256 := (s[pos]).toNat_lt
      by_cases hd : 48 ≤ (s[pos]).toNat ∧ (s[pos]).toNat ≤ 57
      · have H : numB s.data.toList 0 = numB (s.data.toList.drop (pos + 1)) (10 * acc + (((s[pos]).toNat : Int) - 48)) := by rw [hn, numB, if_pos hd]
        have Hn := Lib.hid H
        have h1 : ¬ (s[pos]).toNat < 48 := by omega
        have h2 : ¬ 57 < (s[pos]).toNat := by omega
        clear H hn
        go_wp2
        go_round
        case rel => exact ⟨pos + 1, 10 * acc + (((s[pos]).toNat : Int) - 48), by omega, by congr 1; omega, rfl, by omega, by rw [Int.pow_succ]; omega, Hn.out⟩
        case measure => simp [intOf]; omega
      · have H : valV s = -1 := by unfold valV; rw [hn, numB, if_neg hd]
        have Hn := Lib.hid H
        clear H hn
        by_cases h1 : (s[pos]).toNat < 48
        · go_wp2
          go_ret
          exact ⟨ret_i Hn.out.symm, rfl⟩
        · have h2 : 57 < (s[pos]).toNat := by omega
          go_wp2
          go_ret
          exact ⟨ret_i Hn.out.symm, rfl⟩
    · have H : valV s = acc := by
        unfold valV; rw [hn, List.drop_of_length_le (by simp; omega)]; rfl
      have Hn := Lib.hid H
      clear H hn
      go_wp2
      go_ret
      exact ⟨ret_i Hn.out.symm, rfl⟩
end Go.Proofs.Ytmacmjbjccfgaaa
