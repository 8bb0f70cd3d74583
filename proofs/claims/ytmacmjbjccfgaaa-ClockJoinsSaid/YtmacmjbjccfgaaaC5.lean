/- The document's Stamp; part of the proof of the laws of layer 3. Conditions: each theorem's own. -/
import Derived.Test.YtmacmjbjccfgaaaC4
namespace Go.Proofs.Ytmacmjbjccfgaaa
open Go.RowKit

set_option maxHeartbeats 4000000 in
theorem refStamp_tail (x n : Int) (hx : 0 ≤ x ∧ x < 109938) (h0 : 0 ≤ n) (h1 : n ≤ 158310720) (hn : sDay n = x) (w : World) :
    Calls Try.prog 18 #[.int .i64 n] w fun e w' => e = .returned (.string (strOfNums (stampText n))) ∧ Below w.heap.size w w' := by
  have hb := date_bd x (by omega) (by omega)
  have s1 := strOfNums_size (digs (dateY x) 4)
  have s2 := strOfNums_size (digs (dateM x) 2)
  have s3 := strOfNums_size (digs (dD x) 2)
  have s4 := strOfNums_size (minText (sMin n))
  rw [digs_length] at s1 s2 s3
  have s5 : (minText (sMin n)).length = 5 := by simp [minText, digs_length]
  rw [s5] at s4
  have hfin : strOfNums (digs (dateY x) 4) ++ ⟨#[45]⟩ ++ strOfNums (digs (dateM x) 2) ++ ⟨#[45]⟩ ++ strOfNums (digs (dD x) 2) ++ ⟨#[84]⟩ ++ strOfNums (minText (sMin n)) = strOfNums (stampText n) := by
    rw [show (⟨#[45]⟩ : ByteArray) = strOfNums [45] from rfl, show (⟨#[84]⟩ : ByteArray) = strOfNums [84] from rfl]
    simp only [strOfNums_append, stampText, hn, List.append_assoc, List.cons_append, List.nil_append]
  have Hfin := Lib.hid hfin
  clear hfin s5
  have hday : n = 158310720 ∧ x = 109937 ∧ sMin n = 1440 ∨ n ≠ 158310720 ∧ x = n / 1440 ∧ sMin n = n % 1440 := by
    unfold sDay sMin at *; split at hn <;> simp_all
  rcases hday with ⟨e1, e2, e3⟩ | ⟨e1, e2, e3⟩
  · subst e1 e2
    rw [e3] at s4 Hfin
    clear e3 hn
    go_enter Try.func18, Try.ntmps18
    go_wp2_with fail
    refine (refDate_yes _ (by omega) (by omega) _).mono ?_
    rintro e w1 ⟨rfl, hb1⟩
    have hz0 := hb1.size
    go_wp2
    go_region_held3 (fun W => W.cell? ⟨w1.heap.size, 0, none⟩ = some (.int .i64 (dateY 109937)) ∧ W.cell? ⟨w1.heap.size, 1, none⟩ = some (.int .i64 (dateM 109937)) ∧ W.cell? ⟨w1.heap.size, 2, none⟩ = some (.int .i64 (dD 109937)) ∧ w1.heap.size < W.heap.size ∧ Below w.heap.size w W)
      (first
        | exact ⟨by simp [go_sem], by simp [go_sem], by simp [go_sem], by simp, (hb1.alloc hz0 _).drew⟩
        | (obtain ⟨q1, q2, q3, q4, q5⟩ := ‹_ ∧ _ ∧ _ ∧ _ ∧ Below _ _ _›; exact ⟨(hbb.cell (by exact q4)).trans q1, (hbb.cell (by exact q4)).trans q2, (hbb.cell (by exact q4)).trans q3, (by have := hbb.size; omega), below_call q5 hbb⟩))
      (first | (go_at_call 23; (with_reducible refine (refNumber4 _ ?_ ?_ _).mono ?_); omega; omega; rintro e w' ⟨rfl, hbb⟩) | (go_at_call 23; (with_reducible refine (refNumber2 _ ?_ ?_ _).mono ?_); omega; omega; rintro e w' ⟨rfl, hbb⟩) | (go_at_call 11; (with_reducible refine (refMinute_any _ ?_ ?_ _).mono ?_); omega; omega; rintro e w' ⟨rfl, hbb⟩))
    go_wp2
    go_ret
    obtain ⟨q1, q2, q3, q4, q5⟩ := ‹_ ∧ _ ∧ _ ∧ _ ∧ Below _ _ _›
    exact ⟨ret_s Hfin.out, q5⟩
  · have He2 := Lib.hid e2
    rw [e3] at s4 Hfin
    have hx0 : 0 ≤ n / 1440 := by omega
    rw [e2] at hx hb s1 s2 s3 Hfin
    have hq : (n / 1440 == 109938) = false := by rw [beq_eq_false_iff_ne]; omega
    have hq' : ¬ n = 158310720 := e1
    clear e3 hn e2 e1
    go_enter Try.func18, Try.ntmps18
    go_wp2_with fail
    refine (refDate_yes _ (by omega) (by omega) _).mono ?_
    rintro e w1 ⟨rfl, hb1⟩
    have hz0 := hb1.size
    go_wp2
    go_region_held3 (fun W => W.cell? ⟨w1.heap.size, 0, none⟩ = some (.int .i64 (dateY (n / 1440))) ∧ W.cell? ⟨w1.heap.size, 1, none⟩ = some (.int .i64 (dateM (n / 1440))) ∧ W.cell? ⟨w1.heap.size, 2, none⟩ = some (.int .i64 (dD (n / 1440))) ∧ w1.heap.size < W.heap.size ∧ Below w.heap.size w W)
      (first
        | exact ⟨by simp [go_sem], by simp [go_sem], by simp [go_sem], by simp, (hb1.alloc hz0 _).drew⟩
        | (obtain ⟨q1, q2, q3, q4, q5⟩ := ‹_ ∧ _ ∧ _ ∧ _ ∧ Below _ _ _›; exact ⟨(hbb.cell (by exact q4)).trans q1, (hbb.cell (by exact q4)).trans q2, (hbb.cell (by exact q4)).trans q3, (by have := hbb.size; omega), below_call q5 hbb⟩))
      (first | (go_at_call 23; (with_reducible refine (refNumber4 _ ?_ ?_ _).mono ?_); omega; omega; rintro e w' ⟨rfl, hbb⟩) | (go_at_call 23; (with_reducible refine (refNumber2 _ ?_ ?_ _).mono ?_); omega; omega; rintro e w' ⟨rfl, hbb⟩) | (go_at_call 11; (with_reducible refine (refMinute_any _ ?_ ?_ _).mono ?_); omega; omega; rintro e w' ⟨rfl, hbb⟩))
    go_wp2
    go_ret
    obtain ⟨q1, q2, q3, q4, q5⟩ := ‹_ ∧ _ ∧ _ ∧ _ ∧ Below _ _ _›
    exact ⟨ret_s Hfin.out, q5⟩

theorem refStamp_any (n : Int) (h0 : 0 ≤ n) (h1 : n ≤ 158310720) (w : World) :
    Calls Try.prog 18 #[.int .i64 n] w fun e w' => e = .returned (.string (strOfNums (stampText n))) ∧ Below w.heap.size w w' :=
  refStamp_tail (sDay n) n (by unfold sDay; split <;> omega) h0 h1 rfl w
end Go.Proofs.Ytmacmjbjccfgaaa
