/- What ReadMinute reads: the plain law; part of the proof of the laws of layer 3. Conditions: each theorem's own. -/
import Derived.Test.YtmacmjbjccfgaaaA8
namespace Go.Proofs.Ytmacmjbjccfgaaa
open Go.RowKit

theorem extr (s : ByteArray) (i j : Nat) : (s.extract i j).data.toList = (s.data.toList.drop i).take (j - i) := by
  rw [ByteArray.data_extract, Array.toList_extract, List.extract_eq_take_drop]

theorem numV_of (s : ByteArray) (l : List UInt8) (h : s.data.toList = l) : numV s = match numB l 0 with
  | some n => (n, !l.isEmpty)
  | none => (0, false) := by
  unfold numV; rw [ByteArray.toList_eq, h]
  cases numB l 0 <;> rfl

theorem numB2 (a b : UInt8) : numB [a, b] 0 = if 48 ≤ a.toNat ∧ a.toNat ≤ 57 ∧ 48 ≤ b.toNat ∧ b.toNat ≤ 57 then some (10 * ((a.toNat : Int) - 48) + ((b.toNat : Int) - 48)) else none := by
  simp only [numB]
  by_cases ha : 48 ≤ a.toNat ∧ a.toNat ≤ 57
  · by_cases hb : 48 ≤ b.toNat ∧ b.toNat ≤ 57
    · rw [if_pos ha, if_pos hb, if_pos ⟨ha.1, ha.2, hb.1, hb.2⟩]; simp
    · rw [if_pos ha, if_neg hb, if_neg (by omega)]
  · rw [if_neg ha, if_neg (by omega)]

theorem list5 (l : List UInt8) (h : l.length = 5) : ∃ a b c d e, l = [a, b, c, d, e] := by
  match l, h with
  | [a, b, c, d, e], _ => exact ⟨a, b, c, d, e, rfl⟩

theorem u8_int (a : UInt8) (n : Int) (h : (a.toNat : Int) = n) : a = UInt8.ofNat n.toNat := by
  apply UInt8.toNat_inj.1
  rw [UInt8.toNat_ofNat']
  have := a.toNat_lt
  omega

theorem digs2_eq (n : Int) (h0 : 0 ≤ n) (h1 : n ≤ 99) : digs n 2 = [48 + n / 10, 48 + n % 10] := by
  simp only [digs, List.nil_append, List.cons_append]
  congr 2
  omega

theorem bytes_of (s : ByteArray) (l : List Int) (h : s.data.toList = l.map fun n => UInt8.ofNat n.toNat) : s = strOfNums l := by
  apply ByteArray.ext
  apply Array.toList_inj.1
  rw [h, strOfNums_data]

theorem rmF_true (s : ByteArray) (n : Int) (h : rmF s = (n, true)) : 0 ≤ n ∧ n ≤ 1440 ∧ s = strOfNums (minText n) := by
  unfold rmF at h
  split at h
  · rename_i hc
    obtain ⟨h5, h2, o1, o2, hy, hz⟩ := hc
    obtain ⟨a, b, c, d, e, hl⟩ := list5 s.data.toList (by simpa using h5)
    rw [numV_of (s.extract 0 2) [a, b] (by rw [extr, hl]; rfl)] at *
    rw [numV_of (s.extract 3 5) [d, e] (by rw [extr, hl]; rfl)] at *
    rw [numB2, numB2] at *
    rw [hl] at h2
    simp only [List.getD_cons_succ, List.getD_cons_zero] at h2
    by_cases h1 : 48 ≤ a.toNat ∧ a.toNat ≤ 57 ∧ 48 ≤ b.toNat ∧ b.toNat ≤ 57
    · rw [if_pos h1] at *
      by_cases h3 : 48 ≤ d.toNat ∧ d.toNat ≤ 57 ∧ 48 ≤ e.toNat ∧ e.toNat ≤ 57
      · rw [if_pos h3] at *
        simp only [Prod.mk.injEq, and_true] at h hy hz
        refine ⟨by omega, by omega, ?_⟩
        apply bytes_of
        rw [hl]
        unfold minText
        rw [digs2_eq (n / 60) (by omega) (by omega), digs2_eq (n % 60) (by omega) (by omega)]
        simp only [List.cons_append, List.nil_append, List.map_cons, List.map_nil]
        rw [← u8_int a _ (by omega), ← u8_int b _ (by omega), ← u8_int c 58 (by omega), ← u8_int d _ (by omega), ← u8_int e _ (by omega)]
      · rw [if_neg h3] at o2; simp at o2
    · rw [if_neg h1] at o1; simp at o1
  · simp at h

theorem rmF_text (n : Int) (h0 : 0 ≤ n) (h1 : n ≤ 1440) : rmF (strOfNums (minText n)) = (n, true) := by
  have hl : (strOfNums (minText n)).data.toList = [UInt8.ofNat (48 + n / 60 / 10).toNat, UInt8.ofNat (48 + n / 60 % 10).toNat, 58, UInt8.ofNat (48 + n % 60 / 10).toNat, UInt8.ofNat (48 + n % 60 % 10).toNat] := by
    rw [strOfNums_data]
    unfold minText
    rw [digs2_eq (n / 60) (by omega) (by omega), digs2_eq (n % 60) (by omega) (by omega)]
    rfl
  have e1 : numV ((strOfNums (minText n)).extract 0 2) = (n / 60, true) := by
    rw [numV_of _ [UInt8.ofNat (48 + n / 60 / 10).toNat, UInt8.ofNat (48 + n / 60 % 10).toNat] (by rw [extr, hl]; rfl), numB2, UInt8.toNat_ofNat', UInt8.toNat_ofNat', if_pos (by omega)]
    simp only [List.isEmpty_cons, Bool.not_false, Prod.mk.injEq, and_true]
    omega
  have e2 : numV ((strOfNums (minText n)).extract 3 5) = (n % 60, true) := by
    rw [numV_of _ [UInt8.ofNat (48 + n % 60 / 10).toNat, UInt8.ofNat (48 + n % 60 % 10).toNat] (by rw [extr, hl]; rfl), numB2, UInt8.toNat_ofNat', UInt8.toNat_ofNat', if_pos (by omega)]
    simp only [List.isEmpty_cons, Bool.not_false, Prod.mk.injEq, and_true]
    omega
  unfold rmF
  rw [e1, e2, hl, if_pos ⟨by rw [strOfNums_size]; simp [minText, digs_length], rfl, rfl, rfl, by simp only; omega, by simp only; omega⟩]
  simp only [Prod.mk.injEq, and_true]
  omega

theorem rmF_ref (s : ByteArray) (r : Int) (h : RefMin s r) : rmF s = if 0 ≤ r then (r, true) else (0, false) := by
  rcases h with ⟨h0, h1, rfl⟩ | ⟨rfl, h⟩
  · rw [if_pos h0]; exact rmF_text r h0 h1
  · rw [if_neg (by omega)]
    cases hr : rmF s with
    | mk n b =>
      cases b with
      | true => have := rmF_true s n hr; exact absurd this.2.2 (h n this.1 this.2.1)
      | false =>
        unfold rmF at hr
        split at hr
        · simp at hr
        · exact hr.symm

theorem refMin_ex (s : ByteArray) : ∃ r, RefMin s r := by
  by_cases h : ∃ n, 0 ≤ n ∧ n ≤ 1440 ∧ s = strOfNums (minText n)
  · obtain ⟨n, hn⟩ := h; exact ⟨n, .inl hn⟩
  · exact ⟨-1, .inr ⟨rfl, fun n h0 h1 e => h ⟨n, h0, h1, e⟩⟩⟩
end Go.Proofs.Ytmacmjbjccfgaaa
