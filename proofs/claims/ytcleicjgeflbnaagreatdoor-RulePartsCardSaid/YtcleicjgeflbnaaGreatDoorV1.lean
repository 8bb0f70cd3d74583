/- The pieces of a text between signs. Plain laws; no condition. -/
import Derived.Test.YtcleicjgeflbnaaGreatDoorS8
namespace Go.Proofs.YtcleicjgeflbnaaGreatDoor
open Go.RowKit Go.ChangeShapes Go.WideShapes Go.Deep
set_option linter.all false

/-- The pieces of a text between signs. -/
def splitc (d : UInt8) : List UInt8 → List (List UInt8)
  | [] => [[]]
  | b :: r => if b = d then [] :: splitc d r else (b :: (splitc d r).headD []) :: (splitc d r).tail
theorem splitc_ne (d : UInt8) : ∀ l, splitc d l ≠ []
  | [] => by simp [splitc]
  | b :: r => by rw [splitc]; split <;> simp
theorem splitc_none (d : UInt8) : ∀ (l : List UInt8), Lib.indexByte l d < 0 → splitc d l = [l]
  | [], _ => rfl
  | b :: r, h => by
    rw [Lib.indexByte] at h
    by_cases hb : b = d
    · subst hb; simp at h
    · have h1 : (b == d) = false := by simpa using hb
      have hge := Lib.indexByte_ge r d
      rw [h1] at h
      simp only [Bool.false_eq_true, if_false] at h
      have hr : Lib.indexByte r d < 0 := by
        by_cases he : (Lib.indexByte r d == -1) = true
        · rw [beq_iff_eq] at he; omega
        · rw [if_neg he] at h; omega
      rw [splitc, if_neg hb, splitc_none d r hr]
      rfl
theorem splitc_some (d : UInt8) : ∀ (l : List UInt8) (i : Nat), Lib.indexByte l d = (i : Int) → splitc d l = l.take i :: splitc d (l.drop (i + 1)) ∧ i < l.length
  | [], i, h => by rw [Lib.indexByte] at h; omega
  | b :: r, i, h => by
    rw [Lib.indexByte] at h
    by_cases hb : b = d
    · subst hb
      simp only [beq_self_eq_true, if_true] at h
      obtain rfl : i = 0 := by omega
      rw [splitc, if_pos rfl]
      exact ⟨rfl, by simp⟩
    · have h1 : (b == d) = false := by simpa using hb
      have hge := Lib.indexByte_ge r d
      rw [h1] at h
      simp only [Bool.false_eq_true, if_false] at h
      by_cases he : (Lib.indexByte r d == -1) = true
      · rw [if_pos he] at h; omega
      · rw [if_neg he] at h
        have hne : Lib.indexByte r d ≠ -1 := by simpa using he
        obtain ⟨k, rfl⟩ : ∃ k, i = k + 1 := ⟨i - 1, by omega⟩
        obtain ⟨e, hl⟩ := splitc_some d r k (by omega)
        rw [splitc, if_neg hb, e]
        exact ⟨rfl, by simp; omega⟩

def splitB (d : UInt8) (s : ByteArray) : List ByteArray := (splitc d s.data.toList).map toB
theorem toB_of (s : ByteArray) : toB s.data.toList = s := by
  apply ByteArray.ext; simp [toB]
theorem extr_list (s : ByteArray) (i j : Nat) : (s.extract i j).data.toList = (s.data.toList.drop i).take (j - i) := by
  rw [ByteArray.data_extract, Array.toList_extract, List.extract_eq_take_drop]
theorem splitB_none (d : UInt8) (s : ByteArray) (h : Lib.indexByte s.data.toList d < 0) : splitB d s = [s] := by
  rw [splitB, splitc_none d _ h]
  simp [toB_of]
theorem splitB_some (d : UInt8) (s : ByteArray) (i : Nat) (h : Lib.indexByte s.data.toList d = (i : Int)) : splitB d s = s.extract 0 i :: splitB d (s.extract (i + 1) s.size) ∧ i < s.size := by
  obtain ⟨e, hl⟩ := splitc_some d _ i h
  have hl' : i < s.size := by simpa using hl
  refine ⟨?_, hl'⟩
  rw [splitB, e, List.map_cons]
  congr 1
  · rw [← toB_of (s.extract 0 i), extr_list]; simp
  · rw [splitB, extr_list]
    congr 2
    rw [List.take_of_length_le]
    have : s.data.toList.length = s.size := by simp
    rw [List.length_drop]; omega
end Go.Proofs.YtcleicjgeflbnaaGreatDoor
