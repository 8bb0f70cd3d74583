/- The document's Weekdays: the text of a set below 128; and what is read of a text is the set whose text it is. No other condition. -/
import Derived.Test.YtkbnjigoejalgaaDoorW5
namespace Go.Proofs.YtkbnjigoejalgaaDoor
open Go.RowKit Go.ChangeShapes Go.WideShapes Go.Deep

/-- The text so far. -/
def soFar (n k : Nat) : List UInt8 := Lib.join (selL n k) [44]
theorem soFar_step : ∀ n : Nat, n < 128 → ∀ k : Nat, k < 7 → soFar n (k + 1) = if n / 2 ^ k % 2 = 1 then (if soFar n k = [] then nms.getD k [] else soFar n k ++ [44] ++ nms.getD k []) else soFar n k := by decide +kernel
theorem soFar_le : ∀ n : Nat, n < 128 → ∀ k : Nat, k ≤ 7 → (soFar n k).length ≤ 20 := by decide +kernel
theorem textL_eq : ∀ n : Nat, n < 128 → textL n = if soFar n 7 = [] then [45] else soFar n 7 := by decide +kernel
theorem toB_append (a b : List UInt8) : toB a ++ toB b = toB (a ++ b) := by
  apply ByteArray.ext; simp [toB]
theorem toB_size (l : List UInt8) : (toB l).size = l.length := by simp [toB, ByteArray.size]
theorem toB_empty (l : List UInt8) : (toB l).toList.isEmpty = l.isEmpty := by rw [ByteArray.toList_eq]; simp [toB]
theorem rd_back : ∀ n : Nat, n < 128 → rdS (splitc (textL n)) 7 = n := by decide +kernel

set_option maxHeartbeats 4000000 in
theorem refW (n : Nat) (hn : n < 128) (w : World) : Calls Tryd.prog 6 #[.int .i64 (n : Nat)] w fun e w' => e = .returned (.string (toB (textL n))) ∧ Below w.heap.size w w' := by
  have HS := Lib.hid (soFar_step n hn); have HT := Lib.hid (textL_eq n hn); have HL := Lib.hid (soFar_le n hn)
  go_enter Tryd.func6, Tryd.ntmps6
  go_wp2_with fail
  go_loopw [0, 4, 9] (fun st str i wr => ∃ k : Nat, k ≤ 7 ∧ i = .int .i64 (k : Nat) ∧ st = .int .i64 ((n / 2 ^ k : Nat) : Int) ∧ str = .string (toB (soFar n k)) ∧ wr = w.alloc (.cells #[.string ⟨#[109, 111]⟩, .string ⟨#[116, 117]⟩, .string ⟨#[119, 101]⟩, .string ⟨#[116, 104]⟩, .string ⟨#[102, 114]⟩, .string ⟨#[115, 97]⟩, .string ⟨#[115, 117]⟩] 9)) (fun _ _ i _ => 7 - (intOf i).toNat)
  case atStart => exact ⟨0, Nat.zero_le _, rfl, by simp, rfl, rfl⟩
  case round =>
    obtain ⟨k, hk, rfl, rfl, rfl, rfl⟩ := hrel
    by_cases hlt : k < 7
    · have hlt' : (k : Int) < 7 := by omega
      have hcn : World.cell? (w.alloc (.cells #[.string ⟨#[109, 111]⟩, .string ⟨#[116, 117]⟩, .string ⟨#[119, 101]⟩, .string ⟨#[116, 104]⟩, .string ⟨#[102, 114]⟩, .string ⟨#[115, 97]⟩, .string ⟨#[115, 117]⟩] 9)) ⟨w.heap.size, k, none⟩ = some (.string (toB (nms.getD k []))) := by
        rw [cell_of_row _ _ _ _ _ _ (heap_alloc_new w _)]
        have hkk : k = 0 ∨ k = 1 ∨ k = 2 ∨ k = 3 ∨ k = 4 ∨ k = 5 ∨ k = 6 := by omega
        rcases hkk with rfl | rfl | rfl | rfl | rfl | rfl | rfl <;> rfl
      have hnl : (nms.getD k []).length = 2 := by
        have hkk : k = 0 ∨ k = 1 ∨ k = 2 ∨ k = 3 ∨ k = 4 ∨ k = 5 ∨ k = 6 := by omega
        rcases hkk with rfl | rfl | rfl | rfl | rfl | rfl | rfl <;> rfl
      have hst := HS.out k hlt
      have hl := HL.out k hk
      have hq2 : n / 2 ^ k / 2 = n / 2 ^ (k + 1) := by rw [Nat.div_div_eq_div_mul, Nat.pow_succ]
      have hq1 : n / 2 ^ k < 128 := Nat.lt_of_le_of_lt (Nat.div_le_self _ _) hn
      generalize hnm : nms.getD k [] = nm at hcn hnl hst
      generalize hsf : soFar n k = l at hst hl
      generalize hqq : n / 2 ^ k = q at hst hq2 hq1
      have HST := Lib.hid hst; have HQ2 := Lib.hid hq2; have HNL := Lib.hid hnl; have HLL := Lib.hid hl
      clear hnm hsf hqq hst hq2 hnl hl
      by_cases hb : q % 2 = 1
      · have b1 : ((q : Int) % 2 == 1) = true := by rw [beq_iff_eq]; omega
        by_cases he : l = []
        · subst he
          have i1 : (toB []).toList.isEmpty = true := by rw [toB_empty]; rfl
          have z3 : ¬ 9223372036854775807 < (toB []).size + (toB nm).size := by rw [toB_size, toB_size, HNL.out]; simp
          go_wp2_with fail
          go_roundw
          case measure => simp [intOf]; omega
          case rel =>
            refine ⟨k + 1, by omega, rfl, by rw [← HQ2.out]; rfl, ?_, trivial⟩
            rw [HST.out, if_pos hb, if_pos rfl, toB_append]; rfl
        · have i1 : (toB l).toList.isEmpty = false := by rw [toB_empty]; simpa using he
          have z1 : ¬ 9223372036854775807 < (toB l).size + 1 := by rw [toB_size]; have := HLL.out; omega
          have z2 : ¬ 9223372036854775807 < (toB l).size + 1 + (toB nm).size := by rw [toB_size, toB_size, HNL.out]; have := HLL.out; omega
          go_wp2_with fail
          go_roundw
          case measure => simp [intOf]; omega
          case rel =>
            refine ⟨k + 1, by omega, rfl, by rw [← HQ2.out]; rfl, ?_, trivial⟩
            rw [HST.out, if_pos hb, if_neg he, show (⟨#[44]⟩ : ByteArray) = toB [44] from rfl, toB_append, toB_append]
      · have b1 : ((q : Int) % 2 == 1) = false := by rw [beq_eq_false_iff_ne]; omega
        go_wp2_with fail
        go_roundw
        case measure => simp [intOf]; omega
        case rel =>
          refine ⟨k + 1, by omega, rfl, by rw [← HQ2.out]; rfl, ?_, trivial⟩
          rw [HST.out, if_neg hb]
    · obtain rfl : k = 7 := by omega
      have ht := HT.out
      by_cases h0 : soFar n 7 = []
      · rw [if_pos h0] at ht
        rw [h0]
        have i1 : (toB []).toList.isEmpty = true := by rw [toB_empty]; rfl
        have HTT := Lib.hid ht
        clear ht
        go_wp2_with fail
        go_ret
        exact ⟨by rw [HTT.out]; rfl, (Below.refl _ _).alloc (Nat.le_refl _) _⟩
      · rw [if_neg h0] at ht
        have i1 : (toB (soFar n 7)).toList.isEmpty = false := by rw [toB_empty]; simpa using h0
        have HTT := Lib.hid ht
        clear ht
        go_wp2_with fail
        go_ret
        exact ⟨by rw [HTT.out]; rfl, (Below.refl _ _).alloc (Nat.le_refl _) _⟩
end Go.Proofs.YtkbnjigoejalgaaDoor
