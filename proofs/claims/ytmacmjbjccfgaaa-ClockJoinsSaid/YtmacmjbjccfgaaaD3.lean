/- Letters of a text: the plain law; part of the proof of the laws of layer 3. Conditions: each theorem's own. -/
import Derived.Test.YtmacmjbjccfgaaaD2
namespace Go.Proofs.Ytmacmjbjccfgaaa
open Go.RowKit

def letterB (c : Int) : Bool := decide (97 ≤ c ∧ c ≤ 122 ∨ 65 ≤ c ∧ c ≤ 90 ∨ 48 ≤ c ∧ c ≤ 57 ∨ c = 32 ∨ c = 45 ∨ 192 ≤ c ∧ c ≤ 591)

/-- The letters of a text from a place on. -/
def Lf (s : ByteArray) : Nat → Nat → List Int
  | 0, _ => []
  | b + 1, pos => if pos < s.size then (oneF s pos).2 :: Lf s b (pos + (Utf8.decode s pos).2) else []
def LL (s : ByteArray) : List Int := Lf s s.size 0

theorem bAt_extract (s : ByteArray) (i k : Nat) (h : i ≤ s.size) : bAt (s.extract i s.size) k = bAt s (i + k) := by
  unfold bAt
  rw [extr]
  congr 1
  simp only [List.getD_eq_getElem?_getD]
  congr 1
  rw [List.getElem?_take]
  split
  · rw [List.getElem?_drop]
  · rw [List.getElem?_eq_none (by simp; omega)]

theorem decode_suffix (s : ByteArray) (i : Nat) (h : i < s.size) : Utf8.decode (s.extract i s.size) 0 = Utf8.decode s i := by
  simp only [Utf8.decode, get_bang, Nat.zero_add, bAt_extract s i _ (by omega : i ≤ s.size), Nat.add_zero, ByteArray.size_extract, Nat.min_self]
  have e : ∀ k, decide (k < s.size - i) = decide (i + k < s.size) := fun k => by rw [decide_eq_decide]; omega
  simp only [e]

theorem oneF_suffix (s : ByteArray) (i : Nat) (h : i < s.size) : oneF (s.extract i s.size) 0 = oneF s i := by
  unfold oneF; rw [decode_suffix s i h]

/-- A letter of several bytes: all of them but the first one are continuations, and lie in the text. -/
theorem decode_wide (s : ByteArray) (pos : Nat) (hp : pos < s.size) (h : 1 < (Utf8.decode s pos).2) :
    pos + (Utf8.decode s pos).2 ≤ s.size ∧ 128 ≤ bAt s (pos + (Utf8.decode s pos).2 - 1) ∧ 128 ≤ (Utf8.decode s pos).1 := by
  have h0 : 128 ≤ bAt s pos := by
    rcases Nat.lt_or_ge (bAt s pos) 128 with hh | hh
    · rw [bAt_get s pos hp] at hh
      rw [decode_ascii s pos hp hh] at h
      simp at h
    · exact hh
  refine ⟨?_, ?_, (decode_high s pos hp (by rw [← bAt_get s pos hp]; exact h0)).1⟩
  all_goals
    revert h
    simp only [Utf8.decode, get_bang, Nat.add_zero]
    rw [if_neg (by omega)]
    split
    · rename_i hc
      simp at hc
      split
      · intro _; dsimp only; first | omega | (rw [show pos + 2 - 1 = pos + 1 from by omega]; omega) | (rw [show pos + 3 - 1 = pos + 2 from by omega]; omega) | (rw [show pos + 4 - 1 = pos + 3 from by omega]; omega)
      · intro h; simp at h
    · split
      · rename_i hc
        simp at hc
        split
        · intro _; dsimp only; first | omega | (rw [show pos + 2 - 1 = pos + 1 from by omega]; omega) | (rw [show pos + 3 - 1 = pos + 2 from by omega]; omega) | (rw [show pos + 4 - 1 = pos + 3 from by omega]; omega)
        · intro h; simp at h
      · split
        · rename_i hc
          simp at hc
          split
          · intro _; dsimp only; first | omega | (rw [show pos + 2 - 1 = pos + 1 from by omega]; omega) | (rw [show pos + 3 - 1 = pos + 2 from by omega]; omega) | (rw [show pos + 4 - 1 = pos + 3 from by omega]; omega)
          · intro h; simp at h
        · intro h; simp at h

theorem decode_one (s : ByteArray) (pos : Nat) (hp : pos < s.size) (h : (Utf8.decode s pos).2 = 1) : oneF s pos = if bAt s pos < 128 then (1, (bAt s pos : Int)) else (1, -1) := by
  by_cases h0 : bAt s pos < 128
  · rw [if_pos h0]
    have e : Utf8.decode s pos = (bAt s pos, 1) := by
      rw [decode_ascii s pos hp (by rw [← bAt_get]; exact h0), bAt_get s pos hp]
    unfold oneF
    rw [e]
    have hn : ¬ (128 ≤ bAt s pos ∧ (1 : Nat) = 1) := by omega
    show (if 128 ≤ bAt s pos ∧ (1 : Nat) = 1 then ((1 : Int), (-1 : Int)) else (((1 : Nat) : Int), (bAt s pos : Int))) = _
    rw [if_neg hn]; rfl
  · rw [if_neg h0]
    have := (decode_high s pos hp (by rw [← bAt_get s pos hp]; omega)).1
    unfold oneF
    rw [if_pos ⟨this, h⟩]

theorem oneF_wide (s : ByteArray) (pos : Nat) (h : 1 < (Utf8.decode s pos).2) : oneF s pos = (((Utf8.decode s pos).2 : Int), ((Utf8.decode s pos).1 : Int)) := by
  unfold oneF; rw [if_neg (by omega)]

theorem width_pos (s : ByteArray) (pos : Nat) (hp : pos < s.size) : 1 ≤ (Utf8.decode s pos).2 := Lib.decode_width_pos s pos hp

theorem oneF_width (s : ByteArray) (pos : Nat) (hp : pos < s.size) : (oneF s pos).1 = ((Utf8.decode s pos).2 : Int) := by
  have := width_pos s pos hp
  by_cases h : (Utf8.decode s pos).2 = 1
  · rw [decode_one s pos hp h, h]; split <;> rfl
  · rw [oneF_wide s pos (by omega)]

theorem runeError_no (r : Nat) (s : ByteArray) (pos : Nat) (hp : pos < s.size) (hr : r = (Utf8.decode s pos).1) : letterB (r : Int) = letterB (oneF s pos).2 := by
  have hw := width_pos s pos hp
  by_cases h : (Utf8.decode s pos).2 = 1
  · rw [decode_one s pos hp h]
    by_cases h0 : bAt s pos < 128
    · rw [if_pos h0, hr, decode_ascii s pos hp (by rw [← bAt_get]; exact h0), bAt_get s pos hp]
    · rw [if_neg h0]
      have e : (Utf8.decode s pos).1 = 65533 := by
        revert h
        simp only [Utf8.decode, get_bang, Nat.add_zero]
        rw [if_neg h0]
        repeat' split
        all_goals (intro h; first | rfl | simp at h)
      rw [hr, e]
      decide
  · rw [oneF_wide s pos (by omega), hr]

theorem letter_bd (c : Int) (h : letterB c = true) : 32 ≤ c ∧ c ≤ 591 := by
  unfold letterB at h
  have := of_decide_eq_true h
  omega

theorem Lf_end (s : ByteArray) (b pos : Nat) (h : ¬ pos < s.size) : Lf s b pos = [] := by
  cases b with
  | zero => rfl
  | succ b => simp [Lf, h]

theorem Lf_cons (s : ByteArray) (b pos : Nat) (h : pos < s.size) : Lf s (b + 1) pos = (oneF s pos).2 :: Lf s b (pos + (Utf8.decode s pos).2) := by simp [Lf, h]

theorem Lf_le (s : ByteArray) (b pos : Nat) : (Lf s b pos).length ≤ b := by
  induction b generalizing pos with
  | zero => simp [Lf]
  | succ b ih => unfold Lf; split; simp; exact ih _; simp

theorem Lf_fuel (s : ByteArray) (b : Nat) : ∀ (b' pos : Nat), s.size ≤ pos + b → s.size ≤ pos + b' → Lf s b pos = Lf s b' pos := by
  induction b with
  | zero => intro b' pos h h'; rw [Lf_end s 0 pos (by omega), Lf_end s b' pos (by omega)]
  | succ b ih =>
    intro b' pos h h'
    by_cases hp : pos < s.size
    · have hw := width_pos s pos hp
      cases b' with
      | zero => omega
      | succ b' => rw [Lf_cons s b pos hp, Lf_cons s b' pos hp, ih b' _ (by omega) (by omega)]
    · rw [Lf_end s _ pos hp, Lf_end s _ pos hp]

def lastI (l : List Int) : Int := l.getD (l.length - 1) 0

theorem Lf_last (s : ByteArray) (b : Nat) : ∀ pos, s.size ≤ pos + b → pos < s.size → (Lf s b pos).all letterB = true → (lastI (Lf s b pos) = 32 ↔ bAt s (s.size - 1) = 32) := by
  induction b with
  | zero => intro pos h hp; omega
  | succ b ih =>
    intro pos h hp ha
    have hw := width_pos s pos hp
    rw [Lf_cons s b pos hp] at ha ⊢
    simp only [List.all_cons, Bool.and_eq_true] at ha
    by_cases hn : pos + (Utf8.decode s pos).2 < s.size
    · have h2 := ih _ (by omega) hn ha.2
      have hne : Lf s b (pos + (Utf8.decode s pos).2) ≠ [] := by
        cases b with
        | zero => omega
        | succ b => rw [Lf_cons s b _ hn]; simp
      rw [← h2]
      generalize Lf s b (pos + (Utf8.decode s pos).2) = l at *
      have : lastI ((oneF s pos).2 :: l) = lastI l := by
        unfold lastI
        cases l with
        | nil => exact absurd rfl hne
        | cons x l => simp
      rw [this]
    · rw [Lf_end s b _ hn]
      simp only [lastI, List.length_cons, List.length_nil, Nat.zero_add, Nat.sub_self, List.getD_cons_zero]
      by_cases h1 : (Utf8.decode s pos).2 = 1
      · have e := decode_one s pos hp h1
        have hpos : s.size - 1 = pos := by omega
        rw [hpos]
        by_cases h0 : bAt s pos < 128
        · rw [e, if_pos h0]; simp only []; omega
        · rw [if_neg h0] at e
          rw [e] at ha
          exact absurd ha.1 (by decide)
      · have hwd := decode_wide s pos hp (by omega)
        rw [oneF_wide s pos (by omega)]
        have hpos : s.size - 1 = pos + (Utf8.decode s pos).2 - 1 := by omega
        rw [hpos]
        simp only []
        omega

theorem Lf_first (s : ByteArray) (b : Nat) (hp : 0 < s.size) : (Lf s (b + 1) 0).getD 0 0 = 32 ↔ bAt s 0 = 32 := by
  rw [Lf_cons s b 0 hp]
  simp only [List.getD_cons_zero]
  have hw := width_pos s 0 hp
  by_cases h1 : (Utf8.decode s 0).2 = 1
  · rw [decode_one s 0 hp h1]
    by_cases h0 : bAt s 0 < 128
    · rw [if_pos h0]; simp only []; omega
    · rw [if_neg h0]; simp only []; omega
  · have hwd := decode_wide s 0 hp (by omega)
    rw [oneF_wide s 0 (by omega)]
    have h0 : ¬ bAt s 0 < 128 := by
      intro h0
      have : Utf8.decode s 0 = (bAt s 0, 1) := by
        rw [decode_ascii s 0 hp (by rw [← bAt_get]; exact h0), bAt_get s 0 hp]
      rw [this] at h1
      simp at h1
    simp only []
    omega

/-- What clock.Label, and what the document's Label, answers. -/
def labB (s : ByteArray) : Bool := (LL s).all letterB && (decide (0 < (LL s).length ∧ (LL s).length ≤ 24) && (decide (bAt s 0 ≠ 32) && decide (bAt s (s.size - 1) ≠ 32)))
def refLab (l : List Int) : Bool := !(decide (l.length = 0) || decide (24 < l.length) || decide (l.getD 0 0 = 32) || decide (lastI l = 32)) && l.all letterB

theorem LL_pos (s : ByteArray) : 0 < (LL s).length ↔ 0 < s.size := by
  unfold LL
  constructor
  · intro h
    rcases Nat.eq_zero_or_pos s.size with h0 | h0
    · rw [h0] at h; simp [Lf] at h
    · exact h0
  · intro h
    obtain ⟨b, hb⟩ : ∃ b, s.size = b + 1 := ⟨s.size - 1, by omega⟩
    rw [hb, Lf_cons s b 0 h]; simp

theorem labB_ref (s : ByteArray) : labB s = refLab (LL s) := by
  unfold labB refLab
  by_cases hp : 0 < s.size
  · have hl := (LL_pos s).2 hp
    have hf : (LL s).getD 0 0 = 32 ↔ bAt s 0 = 32 := by
      obtain ⟨b, hb⟩ : ∃ b, s.size = b + 1 := ⟨s.size - 1, by omega⟩
      have := Lf_first s b hp
      rw [← hb] at this
      exact this
    cases ha : (LL s).all letterB with
    | false => simp
    | true =>
      have hla := Lf_last s s.size 0 (by omega) hp ha
      have hla' : lastI (LL s) = 32 ↔ bAt s (s.size - 1) = 32 := hla
      rw [Bool.eq_iff_iff]
      simp only [Bool.true_and, Bool.and_true, Bool.and_eq_true, decide_eq_true_eq, Bool.not_eq_true', Bool.or_eq_false_iff, decide_eq_false_iff_not, hf, hla']
      omega
  · have hl : (LL s).length = 0 := by
      have := (LL_pos s).1
      omega
    rw [Bool.eq_iff_iff]
    simp [hl]
end Go.Proofs.Ytmacmjbjccfgaaa
