/- The pieces of a text between commas. Plain laws; no condition. -/
import Derived.Test.YtkbnjigoejalgaaDoorE1
namespace Go.Proofs.YtkbnjigoejalgaaDoor
open Go.RowKit Go.ChangeShapes Go.WideShapes Go.Deep

/-- The pieces of a text between commas. -/
def splitc : List UInt8 → List (List UInt8)
  | [] => [[]]
  | b :: r => if b = 44 then [] :: splitc r else (b :: (splitc r).headD []) :: (splitc r).tail
theorem splitc_ne : ∀ l, splitc l ≠ []
  | [] => by simp [splitc]
  | b :: r => by rw [splitc]; split <;> simp
theorem splitc_none : ∀ (l : List UInt8), Lib.indexByte l 44 < 0 → splitc l = [l]
  | [], _ => rfl
  | b :: r, h => by
    rw [Lib.indexByte] at h
    by_cases hb : b = 44
    · subst hb; simp at h
    · have h1 : (b == 44) = false := by simpa using hb
      have hge := Lib.indexByte_ge r 44
      rw [h1] at h
      simp only [Bool.false_eq_true, if_false] at h
      have hr : Lib.indexByte r 44 < 0 := by
        by_cases he : (Lib.indexByte r 44 == -1) = true
        · rw [beq_iff_eq] at he; omega
        · rw [if_neg he] at h; omega
      rw [splitc, if_neg hb, splitc_none r hr]
      rfl
theorem splitc_some : ∀ (l : List UInt8) (i : Nat), Lib.indexByte l 44 = (i : Int) → splitc l = l.take i :: splitc (l.drop (i + 1)) ∧ i < l.length
  | [], i, h => by rw [Lib.indexByte] at h; omega
  | b :: r, i, h => by
    rw [Lib.indexByte] at h
    by_cases hb : b = 44
    · subst hb
      simp only [beq_self_eq_true, if_true] at h
      obtain rfl : i = 0 := by omega
      rw [splitc, if_pos rfl]
      exact ⟨rfl, by simp⟩
    · have h1 : (b == 44) = false := by simpa using hb
      have hge := Lib.indexByte_ge r 44
      rw [h1] at h
      simp only [Bool.false_eq_true, if_false] at h
      by_cases he : (Lib.indexByte r 44 == -1) = true
      · rw [if_pos he] at h; omega
      · rw [if_neg he] at h
        have hne : Lib.indexByte r 44 ≠ -1 := by simpa using he
        obtain ⟨k, rfl⟩ : ∃ k, i = k + 1 := ⟨i - 1, by omega⟩
        obtain ⟨e, hl⟩ := splitc_some r k (by omega)
        rw [splitc, if_neg hb, e]
        exact ⟨rfl, by simp; omega⟩

def toB (l : List UInt8) : ByteArray := ⟨l.toArray⟩
def splitB (s : ByteArray) : List ByteArray := (splitc s.data.toList).map toB
theorem toB_data (s : ByteArray) : toB s.data.toList = s := by
  apply ByteArray.ext; simp [toB]
theorem extr_list (s : ByteArray) (i j : Nat) : (s.extract i j).data.toList = (s.data.toList.drop i).take (j - i) := by
  rw [ByteArray.data_extract, Array.toList_extract, List.extract_eq_take_drop]
theorem splitB_none (s : ByteArray) (h : Lib.indexByte s.data.toList 44 < 0) : splitB s = [s] := by
  rw [splitB, splitc_none _ h]
  simp [toB_data]
theorem splitB_some (s : ByteArray) (i : Nat) (h : Lib.indexByte s.data.toList 44 = (i : Int)) : splitB s = s.extract 0 i :: splitB (s.extract (i + 1) s.size) ∧ i < s.size := by
  obtain ⟨e, hl⟩ := splitc_some _ i h
  have hl' : i < s.size := by simpa using hl
  refine ⟨?_, hl'⟩
  rw [splitB, e, List.map_cons]
  congr 1
  · rw [← toB_data (s.extract 0 i), extr_list]; simp
  · rw [splitB, extr_list]
    congr 2
    rw [List.take_of_length_le]
    have : s.data.toList.length = s.size := by simp
    rw [List.length_drop]; omega
end Go.Proofs.YtkbnjigoejalgaaDoor
