/- Walks of letter, RuneCountInString, Width, Label and of the document's L and Label; part of the proof of the laws of layer 3. Conditions: each theorem's own. -/
import Derived.Test.YtmacmjbjccfgaaaD3
namespace Go.Proofs.Ytmacmjbjccfgaaa
open Go.RowKit

theorem letter_any (c : Int) (h0 : 0 ≤ c) (h1 : c ≤ 2147483647) (w : World) :
    Calls Try.prog 25 #[.int .i32 c] w fun e w' => e = .returned (.bool (letterB c)) ∧ w = w' := by
  have hc : c < 32 ∨ c = 32 ∨ 33 ≤ c ∧ c ≤ 44 ∨ c = 45 ∨ 46 ≤ c ∧ c ≤ 47 ∨ 48 ≤ c ∧ c ≤ 57 ∨ 58 ≤ c ∧ c ≤ 64 ∨ 65 ≤ c ∧ c ≤ 90 ∨ 91 ≤ c ∧ c ≤ 96 ∨ 97 ≤ c ∧ c ≤ 122 ∨ 123 ≤ c ∧ c ≤ 191 ∨ 192 ≤ c ∧ c ≤ 591 ∨ 592 ≤ c := by omega
  have hl : letterB c = decide (97 ≤ c ∧ c ≤ 122 ∨ 65 ≤ c ∧ c ≤ 90 ∨ 48 ≤ c ∧ c ≤ 57 ∨ c = 32 ∨ c = 45 ∨ 192 ≤ c ∧ c ≤ 591) := rfl
  have e1 : (c == 32) = decide (c = 32) := by rw [Bool.eq_iff_iff]; simp
  have e2 : (c == 45) = decide (c = 45) := by rw [Bool.eq_iff_iff]; simp
  rcases hc with h | h | h | h | h | h | h | h | h | h | h | h | h
  all_goals
    first | rw [decide_eq_true (by omega)] at hl | rw [decide_eq_false (by omega)] at hl
    first | rw [decide_eq_true (by omega)] at e1 | rw [decide_eq_false (by omega)] at e1
    first | rw [decide_eq_true (by omega)] at e2 | rw [decide_eq_false (by omega)] at e2
    have HL := Lib.hid hl
    first | (obtain ⟨k1, k2⟩ := h; clear hl) | (have k1 : c ≤ 45 := (by omega); have k2 : 32 ≤ c := (by omega); clear h hl) | clear hl
    go_enter Try.func25, Try.ntmps25
    go_wp2
    go_ret
    exact ⟨ret_b HL.out.symm, rfl⟩

set_option maxHeartbeats 1000000 in
theorem count_any (s : ByteArray) (hs : s.size ≤ 140737488351232) (w : World) :
    Calls Try.prog 26 #[.string s] w fun e w' => e = .returned (.int .i64 (LL s).length) ∧ Below w.heap.size w w' := by
  go_enter Try.func26, Try.ntmps26
  go_wp2
  go_loopw [2] (fun n wr => ∃ (pos b acc : Nat), wr = w.iter s pos ∧ n = .int .i64 acc ∧ acc + (Lf s b pos).length = (LL s).length ∧ s.size ≤ pos + b ∧ acc ≤ pos) (fun _ wr => s.size - wr.iterPos w.heap.size)
  case atStart => exact ⟨0, s.size, 0, rfl, rfl, by simp [LL], by omega, Nat.le_refl _⟩
  case round =>
    obtain ⟨pos, b, acc, rfl, rfl, hc, hb, ha⟩ := hrel
    by_cases hp : pos < s.size
    · have hnx : ∀ ty, (Instr.next (.pointer (some ⟨w.heap.size, 0, none⟩)) true ty).run Try.prog (w.iter s pos) = _ := fun ty => run_next_any w s pos ty hp
      have hwd := width_pos s pos hp
      have Hc := Lib.hid hc
      clear hc
      go_wp2
      go_roundw
      case rel =>
        cases b with
        | zero => omega
        | succ b =>
          refine ⟨pos + (Utf8.decode s pos).2, b, acc + 1, rfl, by go_num, ?_, by omega, by omega⟩
          rw [← Hc.out, Lf_cons s b pos hp, List.length_cons]
          omega
      case measure =>
        simp
        omega
    · have hnx : ∀ ty, (Instr.next (.pointer (some ⟨w.heap.size, 0, none⟩)) true ty).run Try.prog (w.iter s pos) = _ := fun ty => run_next_end w s pos ty hp
      rw [Lf_end s b pos hp] at hc
      have Hc := Lib.hid hc
      clear hc
      go_wp2
      go_ret
      exact ⟨ret_i (by have := Hc.out; simp at this; omega), below_iter _ _ _⟩

theorem width_any (s : ByteArray) (hs : s.size ≤ 140737488351232) (w : World) :
    Calls Try.prog 16 #[.string s] w fun e w' => e = .returned (.int .i64 (LL s).length) ∧ Below w.heap.size w w' := by
  go_enter Try.func16, Try.ntmps16
  go_wp2_with fail
  (with_reducible refine (count_any s hs _).mono ?_)
  rintro e w1 ⟨rfl, hb1⟩
  go_wp2
  go_ret
  exact ⟨rfl, hb1⟩

set_option maxHeartbeats 2000000 in
theorem label_any (s : ByteArray) (hs : s.size ≤ 140737488351232) (w : World) :
    Calls Try.prog 14 #[.string s] w fun e w' => e = .returned (.bool (labB s)) ∧ Below w.heap.size w w' := by
  go_enter Try.func14, Try.ntmps14
  go_wp2
  go_loopw [3] (fun n wr => ∃ (pos b : Nat) (pre : List Int), wr = w.iter s pos ∧ n = .int .i64 (pre.length : Nat) ∧ LL s = pre ++ Lf s b pos ∧ pre.all letterB = true ∧ s.size ≤ pos + b ∧ pre.length ≤ pos) (fun _ wr => s.size - wr.iterPos w.heap.size)
  case atStart => exact ⟨0, s.size, [], rfl, rfl, rfl, rfl, by omega, Nat.le_refl _⟩
  case round =>
    obtain ⟨pos, b, pre, rfl, rfl, hc, hal, hb, ha⟩ := hrel
    obtain ⟨n, hn⟩ : ∃ n, n = pre.length := ⟨_, rfl⟩
    by_cases hp : pos < s.size
    · have hnx : ∀ ty, (Instr.next (.pointer (some ⟨w.heap.size, 0, none⟩)) true ty).run Try.prog (w.iter s pos) = _ := fun ty => run_next_any w s pos ty hp
      have hwd := width_pos s pos hp
      have hle := decode_le s pos
      have hlet := runeError_no (Utf8.decode s pos).1 s pos hp rfl
      obtain ⟨b', rfl⟩ : ∃ b', b = b' + 1 := ⟨b - 1, by omega⟩
      rw [Lf_cons s b' pos hp] at hc
      have D := Lib.hid (fun w => letter_any ((Utf8.decode s pos).1 : Int) (by omega) (by omega) w)
      rw [hlet] at D
      rw [← hn] at ha ⊢
      cases hl : letterB (oneF s pos).2 with
      | true =>
        rw [hl] at D
        have Hc := Lib.hid hc
        have Hal := Lib.hid hal
        have Hl := Lib.hid hl
        have Hn := Lib.hid hn
        clear hc hal hl hlet hn
        go_wp2_with fail
        (with_reducible refine (D.out _).mono ?_)
        rintro e w1 ⟨rfl, rfl⟩
        go_wp2
        go_roundw
        case rel => exact ⟨pos + (Utf8.decode s pos).2, b', pre ++ [(oneF s pos).2], rfl, by rw [List.length_append, ← Hn.out]; go_num, by rw [Hc.out]; simp, by rw [List.all_append, Hal.out]; simp [Hl.out], by omega, by rw [List.length_append, ← Hn.out]; simp; omega⟩
        case measure =>
          simp
          omega
      | false =>
        rw [hl] at D
        have hF : labB s = false := by unfold labB; rw [hc]; simp [hl]
        have HF := Lib.hid hF
        clear hc hal hl hlet hF
        go_wp2_with fail
        (with_reducible refine (D.out _).mono ?_)
        rintro e w1 ⟨rfl, rfl⟩
        go_wp2
        go_ret
        exact ⟨ret_b HF.out.symm, below_iter _ _ _⟩
    · have hnx : ∀ ty, (Instr.next (.pointer (some ⟨w.heap.size, 0, none⟩)) true ty).run Try.prog (w.iter s pos) = _ := fun ty => run_next_end w s pos ty hp
      rw [Lf_end s b pos hp, List.append_nil] at hc
      have hF : labB s = (decide (0 < n ∧ n ≤ 24) && (decide (bAt s 0 ≠ 32) && decide (bAt s (s.size - 1) ≠ 32))) := by
        unfold labB; rw [hc, hal, ← hn]; simp
      have hpos : 0 < n ↔ 0 < s.size := by rw [hn, ← hc]; exact LL_pos s
      rw [← hn] at ha ⊢
      clear hc hal hn
      by_cases h1 : 0 < n
      · have hsz := hpos.1 h1
        have d1 : decide ((0 : Int) < (n : Int)) = true := by simp; omega
        by_cases h2 : n ≤ 24
        · have e0 := bAt_get s 0 hsz
          have e1 := bAt_get s (s.size - 1) (by omega)
          have d2 : decide ((n : Int) ≤ 24) = true := by simp; omega
          rw [e0, e1, decide_eq_true (show 0 < n ∧ n ≤ 24 from ⟨h1, h2⟩)] at hF
          have hi : ((s.size : Int) - 1).toNat = s.size - 1 := by omega
          by_cases g0 : (s[0]'hsz).toNat = 32
          · have hF' : labB s = false := by rw [hF, g0]; simp
            have HF := Lib.hid hF'
            clear hF hF' e0 e1 hpos
            go_wp2
            go_ret
            exact ⟨ret_b HF.out.symm, below_iter _ _ _⟩
          · have g0' : (((s[0]'hsz).toNat : Int) != 32) = true := by rw [bne_iff_ne]; omega
            have hF' : labB s = (((s[s.size - 1]'(by omega)).toNat : Int) != 32) := by
              rw [hF, Bool.eq_iff_iff]; simp [g0]; omega
            have HF := Lib.hid hF'
            clear hF hF' e0 e1 hpos
            go_wp2
            go_ret
            exact ⟨ret_b HF.out.symm, below_iter _ _ _⟩
        · have d2 : decide ((n : Int) ≤ 24) = false := by simp; omega
          have hF' : labB s = false := by rw [hF, decide_eq_false (by omega)]; rfl
          have HF := Lib.hid hF'
          clear hF hF' hpos
          go_wp2
          go_ret
          exact ⟨ret_b HF.out.symm, below_iter _ _ _⟩
      · have d1 : decide ((0 : Int) < (n : Int)) = false := by simp; omega
        have hF' : labB s = false := by rw [hF, decide_eq_false (by omega)]; rfl
        have HF := Lib.hid hF'
        clear hF hF' hpos
        go_wp2
        go_ret
        exact ⟨ret_b HF.out.symm, below_iter _ _ _⟩
end Go.Proofs.Ytmacmjbjccfgaaa
