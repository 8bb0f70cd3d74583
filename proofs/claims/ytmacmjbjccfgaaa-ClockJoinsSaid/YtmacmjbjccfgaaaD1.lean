/- The document's first letter of a text (one): part of the proof of the laws of layer 3. Conditions: each theorem's own. -/
import Derived.Test.YtmacmjbjccfgaaaC8
namespace Go.Proofs.Ytmacmjbjccfgaaa
open Go.RowKit

/-- What the document's one says of a text that is not empty: width and letter, or 1 and -1. -/
def oneF (s : ByteArray) (pos : Nat) : Int × Int := if 128 ≤ (Utf8.decode s pos).1 ∧ (Utf8.decode s pos).2 = 1 then (1, -1) else (((Utf8.decode s pos).2 : Int), ((Utf8.decode s pos).1 : Int))

def bAt (s : ByteArray) (i : Nat) : Nat := (s.data.toList.getD i 0).toNat

theorem get_bang (s : ByteArray) (i : Nat) : (s.get! i).toNat = bAt s i := by
  unfold bAt ByteArray.get!
  simp [List.getD, getElem!_def]
  cases s.data[i]? <;> rfl

theorem bAt_get (s : ByteArray) (i : Nat) (h : i < s.size) : bAt s i = (s[i]).toNat := by unfold bAt; rw [getD_get s i h]
theorem bAt_lt (s : ByteArray) (i : Nat) : bAt s i < 256 := by unfold bAt; exact UInt8.toNat_lt _

/-- The continuation bytes from a place on, so many: what they make of a letter's beginning. -/
def contF (s : ByteArray) : Nat → Nat → Int → Option Int
  | 0, _, c => some c
  | k + 1, i, c => if 128 ≤ bAt s i ∧ bAt s i ≤ 191 then contF s k (i + 1) (64 * c + bAt s i - 128) else none

def oneG (s : ByteArray) (many : Nat) (c least : Int) : Int × Int :=
  if s.size < many + 1 then (1, -1) else
  match contF s many 1 c with
  | none => (1, -1)
  | some c => if c < least ∨ c > 1114111 ∨ c ≥ 55296 ∧ c < 57344 then (1, -1) else ((many : Int) + 1, c)

theorem valid_iff (c : Nat) : Utf8.valid (c : Int) = decide (c < 55296 ∨ 57344 ≤ c ∧ c ≤ 1114111) := by
  unfold Utf8.valid
  rw [Bool.eq_iff_iff]
  simp
  omega

theorem oneF_1 (s : ByteArray) (h : 1 ≤ s.size) (h0 : bAt s 0 < 128) : oneF s 0 = (1, (bAt s 0 : Int)) := by
  have e : Utf8.decode s 0 = (bAt s 0, 1) := by
    rw [decode_ascii s 0 (by omega) (by rw [← bAt_get]; exact h0), bAt_get s 0 (by omega)]
  unfold oneF
  rw [e]
  have hn : ¬ (128 ≤ bAt s 0 ∧ (1 : Nat) = 1) := by omega
  show (if 128 ≤ bAt s 0 ∧ (1 : Nat) = 1 then ((1 : Int), (-1 : Int)) else (((1 : Nat) : Int), (bAt s 0 : Int))) = _
  rw [if_neg hn]
  rfl

theorem oneF_bad (s : ByteArray) (h0 : 128 ≤ bAt s 0) (h1 : bAt s 0 < 192 ∨ 248 ≤ bAt s 0) : oneF s 0 = (1, -1) := by
  have hb := bAt_lt s 0
  have e : Utf8.decode s 0 = (Utf8.runeError, 1) := by
    simp only [Utf8.decode, get_bang, Nat.zero_add]
    rw [if_neg (by omega), if_neg (by simp; omega), if_neg (by simp; omega), if_neg (by simp; omega)]
  unfold oneF
  rw [e]
  simp only []
  rw [if_pos (by decide)]

theorem oneF_2 (s : ByteArray) (h0 : 192 ≤ bAt s 0) (h1 : bAt s 0 < 224) : oneF s 0 = oneG s 1 ((bAt s 0 : Int) - 192) 128 := by
  have e : Utf8.decode s 0 = if (1 < s.size ∧ bAt s 1 / 64 = 2) then (if 128 ≤ (bAt s 0 % 32) * 64 + bAt s 1 % 64 then ((bAt s 0 % 32) * 64 + bAt s 1 % 64, 2) else (Utf8.runeError, 1)) else (Utf8.runeError, 1) := by
    simp only [Utf8.decode, get_bang, Nat.zero_add]
    rw [if_neg (by omega)]
    by_cases hc : 1 < s.size ∧ bAt s 1 / 64 = 2
    · rw [if_pos hc, if_pos (by simp [hc]; omega)]
    · rw [if_neg hc, if_neg (by simp; omega), if_neg (by simp; omega), if_neg (by simp; omega)]
  unfold oneF oneG
  rw [e]
  simp only [contF]
  by_cases hs : 1 < s.size
  · rw [if_neg (by omega : ¬ s.size < 1 + 1)]
    by_cases hc : 128 ≤ bAt s 1 ∧ bAt s 1 ≤ 191
    · rw [if_pos hc]
      rw [if_pos (show 1 < s.size ∧ bAt s 1 / 64 = 2 by omega)]
      by_cases hr : 128 ≤ (bAt s 0 % 32) * 64 + bAt s 1 % 64
      · rw [if_pos hr]
        simp only []
        rw [if_neg (by omega), if_neg (by omega)]
        simp only [Prod.mk.injEq]
        omega
      · rw [if_neg hr]
        simp only []
        rw [if_pos (by decide), if_pos (by omega)]
    · rw [if_neg hc, if_neg (show ¬ (1 < s.size ∧ bAt s 1 / 64 = 2) by omega)]
      simp only []
      rw [if_pos (by decide)]
  · rw [if_pos (by omega : s.size < 1 + 1), if_neg (show ¬ (1 < s.size ∧ bAt s 1 / 64 = 2) by omega)]
    simp only []
    rw [if_pos (by decide)]

theorem oneF_3 (s : ByteArray) (h0 : 224 ≤ bAt s 0) (h1 : bAt s 0 < 240) : oneF s 0 = oneG s 2 ((bAt s 0 : Int) - 224) 2048 := by
  have e : Utf8.decode s 0 = if (1 < s.size ∧ bAt s 1 / 64 = 2) ∧ (2 < s.size ∧ bAt s 2 / 64 = 2) then (if 2048 ≤ (bAt s 0 % 16) * 4096 + (bAt s 1 % 64) * 64 + bAt s 2 % 64 ∧ ((bAt s 0 % 16) * 4096 + (bAt s 1 % 64) * 64 + bAt s 2 % 64 < 55296 ∨ 57344 ≤ (bAt s 0 % 16) * 4096 + (bAt s 1 % 64) * 64 + bAt s 2 % 64) then ((bAt s 0 % 16) * 4096 + (bAt s 1 % 64) * 64 + bAt s 2 % 64, 3) else (Utf8.runeError, 1)) else (Utf8.runeError, 1) := by
    simp only [Utf8.decode, get_bang, Nat.zero_add]
    rw [if_neg (by omega), if_neg (by simp; omega)]
    by_cases hc : (1 < s.size ∧ bAt s 1 / 64 = 2) ∧ (2 < s.size ∧ bAt s 2 / 64 = 2)
    · rw [if_pos hc, if_pos (by simp [hc]; omega)]
      generalize hcc : (bAt s 0 % 16) * 4096 + (bAt s 1 % 64) * 64 + bAt s 2 % 64 = c
      have hcb : c < 65536 := by omega
      rw [valid_iff]
      by_cases hr : 2048 ≤ c ∧ (c < 55296 ∨ 57344 ≤ c)
      · rw [if_pos hr, if_pos (by simp; omega)]
      · rw [if_neg hr, if_neg (by simp; omega)]
    · rw [if_neg hc, if_neg (by simp; omega), if_neg (by simp; omega)]
  unfold oneF oneG
  rw [e]
  simp only [contF]
  by_cases hs : 2 < s.size
  · rw [if_neg (by omega : ¬ s.size < 2 + 1)]
    by_cases hc : 128 ≤ bAt s 1 ∧ bAt s 1 ≤ 191
    · rw [if_pos hc]
      by_cases hc2 : 128 ≤ bAt s (1 + 1) ∧ bAt s (1 + 1) ≤ 191
      · rw [if_pos hc2]
        simp only [Nat.reduceAdd] at hc2 ⊢
        rw [if_pos (show (1 < s.size ∧ bAt s 1 / 64 = 2) ∧ (2 < s.size ∧ bAt s 2 / 64 = 2) by omega)]
        split
        · simp only []
          rw [if_neg (by omega), if_neg (by omega)]
          simp only [Prod.mk.injEq]
          omega
        · simp only []
          rw [if_pos (by decide), if_pos (by omega)]
      · rw [if_neg hc2]
        simp only [Nat.reduceAdd] at hc2
        rw [if_neg (show ¬ ((1 < s.size ∧ bAt s 1 / 64 = 2) ∧ (2 < s.size ∧ bAt s 2 / 64 = 2)) by omega)]
        simp only []
        rw [if_pos (by decide)]
    · rw [if_neg hc, if_neg (show ¬ ((1 < s.size ∧ bAt s 1 / 64 = 2) ∧ (2 < s.size ∧ bAt s 2 / 64 = 2)) by omega)]
      simp only []
      rw [if_pos (by decide)]
  · rw [if_pos (by omega : s.size < 2 + 1), if_neg (show ¬ ((1 < s.size ∧ bAt s 1 / 64 = 2) ∧ (2 < s.size ∧ bAt s 2 / 64 = 2)) by omega)]
    simp only []
    rw [if_pos (by decide)]

theorem oneF_4 (s : ByteArray) (h0 : 240 ≤ bAt s 0) (h1 : bAt s 0 < 248) : oneF s 0 = oneG s 3 ((bAt s 0 : Int) - 240) 65536 := by
  have e : Utf8.decode s 0 = if (1 < s.size ∧ bAt s 1 / 64 = 2) ∧ (2 < s.size ∧ bAt s 2 / 64 = 2) ∧ (3 < s.size ∧ bAt s 3 / 64 = 2) then (if 65536 ≤ (bAt s 0 % 8) * 262144 + (bAt s 1 % 64) * 4096 + (bAt s 2 % 64) * 64 + bAt s 3 % 64 ∧ (bAt s 0 % 8) * 262144 + (bAt s 1 % 64) * 4096 + (bAt s 2 % 64) * 64 + bAt s 3 % 64 ≤ 1114111 then ((bAt s 0 % 8) * 262144 + (bAt s 1 % 64) * 4096 + (bAt s 2 % 64) * 64 + bAt s 3 % 64, 4) else (Utf8.runeError, 1)) else (Utf8.runeError, 1) := by
    simp only [Utf8.decode, get_bang, Nat.zero_add]
    rw [if_neg (by omega), if_neg (by simp; omega), if_neg (by simp; omega)]
    by_cases hc : (1 < s.size ∧ bAt s 1 / 64 = 2) ∧ (2 < s.size ∧ bAt s 2 / 64 = 2) ∧ (3 < s.size ∧ bAt s 3 / 64 = 2)
    · rw [if_pos hc, if_pos (by simp [hc]; omega)]
      generalize hcc : (bAt s 0 % 8) * 262144 + (bAt s 1 % 64) * 4096 + (bAt s 2 % 64) * 64 + bAt s 3 % 64 = c
      rw [valid_iff]
      by_cases hr : 65536 ≤ c ∧ c ≤ 1114111
      · rw [if_pos hr, if_pos (by simp; omega)]
      · rw [if_neg hr, if_neg (by simp; omega)]
    · rw [if_neg hc, if_neg (by simp; omega)]
  unfold oneF oneG
  rw [e]
  simp only [contF]
  by_cases hs : 3 < s.size
  · rw [if_neg (by omega : ¬ s.size < 3 + 1)]
    by_cases hc : 128 ≤ bAt s 1 ∧ bAt s 1 ≤ 191
    · rw [if_pos hc]
      by_cases hc2 : 128 ≤ bAt s (1 + 1) ∧ bAt s (1 + 1) ≤ 191
      · rw [if_pos hc2]
        by_cases hc3 : 128 ≤ bAt s (1 + 1 + 1) ∧ bAt s (1 + 1 + 1) ≤ 191
        · rw [if_pos hc3]
          simp only [Nat.reduceAdd] at hc2 hc3 ⊢
          rw [if_pos (show (1 < s.size ∧ bAt s 1 / 64 = 2) ∧ (2 < s.size ∧ bAt s 2 / 64 = 2) ∧ (3 < s.size ∧ bAt s 3 / 64 = 2) by omega)]
          split
          · simp only []
            rw [if_neg (by omega), if_neg (by omega)]
            simp only [Prod.mk.injEq]
            omega
          · simp only []
            rw [if_pos (by decide), if_pos (by omega)]
        · rw [if_neg hc3]
          simp only [Nat.reduceAdd] at hc3
          rw [if_neg (show ¬ ((1 < s.size ∧ bAt s 1 / 64 = 2) ∧ (2 < s.size ∧ bAt s 2 / 64 = 2) ∧ (3 < s.size ∧ bAt s 3 / 64 = 2)) by omega)]
          simp only []
          rw [if_pos (by decide)]
      · rw [if_neg hc2]
        simp only [Nat.reduceAdd] at hc2
        rw [if_neg (show ¬ ((1 < s.size ∧ bAt s 1 / 64 = 2) ∧ (2 < s.size ∧ bAt s 2 / 64 = 2) ∧ (3 < s.size ∧ bAt s 3 / 64 = 2)) by omega)]
        simp only []
        rw [if_pos (by decide)]
    · rw [if_neg hc, if_neg (show ¬ ((1 < s.size ∧ bAt s 1 / 64 = 2) ∧ (2 < s.size ∧ bAt s 2 / 64 = 2) ∧ (3 < s.size ∧ bAt s 3 / 64 = 2)) by omega)]
      simp only []
      rw [if_pos (by decide)]
  · rw [if_pos (by omega : s.size < 3 + 1), if_neg (show ¬ ((1 < s.size ∧ bAt s 1 / 64 = 2) ∧ (2 < s.size ∧ bAt s 2 / 64 = 2) ∧ (3 < s.size ∧ bAt s 3 / 64 = 2)) by omega)]
    simp only []
    rw [if_pos (by decide)]
end Go.Proofs.Ytmacmjbjccfgaaa
