/- What a rule's text is, and how long; plain laws. No condition. -/
import Derived.Test.YtcleicjgeflbnaaGreatDoorR10
import Derived.Lib.ItoaNum
import Derived.Lib.ItoaLen
import Derived.Lib.Join
namespace Go.Proofs.YtcleicjgeflbnaaGreatDoor
open Go.RowKit
set_option linter.all false

/-- The bytes as a string. -/
def toB (l : List UInt8) : ByteArray := ⟨l.toArray⟩
theorem toB_data (l : List UInt8) : (toB l).data.toList = l := rfl
theorem toB_append (a b : List UInt8) : toB a ++ toB b = toB (a ++ b) := by
  apply ByteArray.ext
  simp [toB, ByteArray.data_append]
theorem toB_size (l : List UInt8) : (toB l).size = l.length := by simp [toB, ByteArray.size]
theorem toB_inj {a b : List UInt8} (h : toB a = toB b) : a = b := by
  have := congrArg (fun x => x.data.toList) h
  exact this

def kFREQ : List UInt8 := [70, 82, 69, 81, 61]
def kINTERVAL : List UInt8 := [73, 78, 84, 69, 82, 86, 65, 76, 61]
def kCOUNT : List UInt8 := [67, 79, 85, 78, 84, 61]
def kUNTIL : List UInt8 := [85, 78, 84, 73, 76, 61]
def kBYMONTH : List UInt8 := [66, 89, 77, 79, 78, 84, 72, 61]
def kBYMONTHDAY : List UInt8 := [66, 89, 77, 79, 78, 84, 72, 68, 65, 89, 61]
def kBYDAY : List UInt8 := [66, 89, 68, 65, 89, 61]
def kBYSETPOS : List UInt8 := [66, 89, 83, 69, 84, 80, 79, 83, 61]
def kWKST : List UInt8 := [87, 75, 83, 84, 61]
def freqsL : List (List UInt8) := [[68, 65, 73, 76, 89], [87, 69, 69, 75, 76, 89], [77, 79, 78, 84, 72, 76, 89], [89, 69, 65, 82, 76, 89]]
def daysL : List (List UInt8) := [[77, 79], [84, 85], [87, 69], [84, 72], [70, 82], [83, 65], [83, 85]]
def freqT (n : Int) : List UInt8 := freqsL.getD (n - 1).toNat []
def dayT (n : Int) : List UInt8 := daysL.getD n.toNat []
def dayNT (d : DayND) : List UInt8 := if d.n = 0 then dayT d.day else Lib.itoa d.n ++ dayT d.day

def optP (c : Prop) [Decidable c] (x : List UInt8) : List (List UInt8) := if c then [x] else []
def rowP {α : Type} (k : List UInt8) (f : α → List UInt8) (l : List α) : List (List UInt8) := if l.length = 0 then [] else [k ++ Lib.join (l.map f) [44]]
theorem rowP_nil {α : Type} (k : List UInt8) (f : α → List UInt8) : rowP k f [] = [] := rfl
theorem optP_no {c : Prop} [Decidable c] (x : List UInt8) (h : ¬ c) : optP c x = [] := by unfold optP; rw [if_neg h]
theorem optP_yes {c : Prop} [Decidable c] (x : List UInt8) (h : c) : optP c x = [x] := by unfold optP; rw [if_pos h]
/-- The parts of a rule's text; T is what a stamp without signs is. -/
def partsR (T : Int → List UInt8) (r : RuleD) : List (List UInt8) :=
  [kFREQ ++ freqT r.freq] ++ optP (r.interval ≠ 1) (kINTERVAL ++ Lib.itoa r.interval) ++ optP (0 < r.count) (kCOUNT ++ Lib.itoa r.count) ++ optP (0 ≤ r.until_) (kUNTIL ++ T r.until_) ++
    rowP kBYMONTH Lib.itoa r.byMonth ++ rowP kBYMONTHDAY Lib.itoa r.byMonthDay ++ rowP kBYDAY dayNT r.byDay ++ rowP kBYSETPOS Lib.itoa r.bySetPos ++ optP (0 < r.start) (kWKST ++ dayT r.start)
def textR (T : Int → List UInt8) (r : RuleD) : List UInt8 := Lib.join (partsR T r) [59]

/-- How long a row of parts is, each with a sign more. -/
def lenP (l : List (List UInt8)) : Nat := (l.map fun x => x.length + 1).sum
theorem lenP_append (a b : List (List UInt8)) : lenP (a ++ b) = lenP a + lenP b := by simp [lenP]
theorem join_len (x : List UInt8) (l : List (List UInt8)) : (Lib.join (x :: l) [59]).length + 1 = lenP (x :: l) := by
  rw [Lib.join_length]
  have : ∀ l : List (List UInt8), lenP l = l.length + Lib.lens l := by
    intro l
    induction l with
    | nil => rfl
    | cons y l ih => simp only [lenP, Lib.lens, List.map_cons, List.sum_cons, List.length_cons] at ih ⊢; omega
  rw [this]
  simp only [List.length_cons, List.length_nil]
  omega
theorem text_len (T : Int → List UInt8) (r : RuleD) : (textR T r).length + 1 = lenP (partsR T r) := by
  unfold textR partsR
  simp only [List.cons_append, List.nil_append]
  exact join_len _ _
theorem lenP_opt (c : Prop) [Decidable c] (x : List UInt8) : lenP (optP c x) = if c then x.length + 1 else 0 := by
  unfold optP; split <;> simp [lenP]
theorem lenP_row {α : Type} (k : List UInt8) (f : α → List UInt8) (l : List α) : lenP (rowP k f l) = if l.length = 0 then 0 else (k ++ Lib.join (l.map f) [44]).length + 1 := by
  unfold rowP; split <;> simp [lenP]

/-! ### A rule without its rows, and one without its end -/
def lessR (r : RuleD) : RuleD := { r with byMonthDay := [], byDay := [], bySetPos := [] }
def openR (r : RuleD) : RuleD := { r with count := 0, until_ := -1 }
theorem nil_rowMay (m : Nat) (b : Bool) : rowMay m b [] := ⟨fun x h => by simp at h, fun i a b h => by simp at h⟩
theorem less_may {r : RuleD} (h : mayR r) : mayR (lessR r) := by
  obtain ⟨q1, q2, q3, q4, q5, q6, q7, q8, q9, q10, q11, q12, q13⟩ := h
  exact ⟨q1, q2, q3, q4, q5, q6, nil_rowMay _ _, .inr rfl, ⟨fun x h => by simp [lessR] at h, fun i a b h => by simp [lessR] at h⟩, nil_rowMay _ _, .inr rfl, q12, q13⟩
theorem open_may {r : RuleD} (h : mayR r) : mayR (openR r) := by
  obtain ⟨q1, q2, q3, q4, q5, q6, q7, q8, q9, q10, q11, q12, q13⟩ := h
  exact ⟨q1, q2, q3, q4, ⟨by simp [openR], by simp [openR], .inl rfl⟩, q6, q7, q8, q9, q10, q11, q12, q13⟩
theorem less_parts (T : Int → List UInt8) (r : RuleD) : lenP (partsR T (lessR r)) + lenP (rowP kBYMONTHDAY Lib.itoa r.byMonthDay) + lenP (rowP kBYDAY dayNT r.byDay) + lenP (rowP kBYSETPOS Lib.itoa r.bySetPos) = lenP (partsR T r) := by
  have h : partsR T (lessR r) = [kFREQ ++ freqT r.freq] ++ optP (r.interval ≠ 1) (kINTERVAL ++ Lib.itoa r.interval) ++ optP (0 < r.count) (kCOUNT ++ Lib.itoa r.count) ++ optP (0 ≤ r.until_) (kUNTIL ++ T r.until_) ++
    rowP kBYMONTH Lib.itoa r.byMonth ++ optP (0 < r.start) (kWKST ++ dayT r.start) := by
    unfold partsR
    rw [show (lessR r).byMonthDay = [] from rfl, show (lessR r).byDay = [] from rfl, show (lessR r).bySetPos = [] from rfl, rowP_nil, rowP_nil, rowP_nil, List.append_nil, List.append_nil, List.append_nil]
    rfl
  rw [h]
  unfold partsR
  simp only [lenP_append]
  omega
theorem open_parts (T : Int → List UInt8) (r : RuleD) : lenP (partsR T (openR r)) + lenP (optP (0 < r.count) (kCOUNT ++ Lib.itoa r.count)) + lenP (optP (0 ≤ r.until_) (kUNTIL ++ T r.until_)) = lenP (partsR T r) := by
  have h : partsR T (openR r) = [kFREQ ++ freqT r.freq] ++ optP (r.interval ≠ 1) (kINTERVAL ++ Lib.itoa r.interval) ++
    rowP kBYMONTH Lib.itoa r.byMonth ++ rowP kBYMONTHDAY Lib.itoa r.byMonthDay ++ rowP kBYDAY dayNT r.byDay ++ rowP kBYSETPOS Lib.itoa r.bySetPos ++ optP (0 < r.start) (kWKST ++ dayT r.start) := by
    unfold partsR
    rw [show (openR r).count = 0 from rfl, show (openR r).until_ = -1 from rfl, optP_no _ (by omega : ¬ (0 : Int) < 0), optP_no _ (by omega : ¬ (0 : Int) ≤ -1), List.append_nil, List.append_nil]
    rfl
  rw [h]
  unfold partsR
  simp only [lenP_append]
  omega
theorem row_zero {α : Type} (k : List UInt8) (f : α → List UInt8) (l : List α) : lenP (rowP k f l) = 0 ↔ l.length = 0 := by
  rw [lenP_row]; split <;> simp [*]
theorem opt_zero (c : Prop) [Decidable c] (x : List UInt8) : lenP (optP c x) = 0 ↔ ¬ c := by
  rw [lenP_opt]; split <;> simp [*]
theorem less_len (T : Int → List UInt8) (r : RuleD) : (textR T (lessR r)).length ≤ (textR T r).length ∧ ((textR T (lessR r)).length < (textR T r).length ↔ ¬ lessR r = r) := by
  have h1 := text_len T r
  have h2 := text_len T (lessR r)
  have h3 := less_parts T r
  have e : lessR r = r ↔ r.byMonthDay.length = 0 ∧ r.byDay.length = 0 ∧ r.bySetPos.length = 0 := by
    cases r
    simp only [lessR, RuleD.mk.injEq, true_and, and_true, List.length_eq_zero_iff]
    exact ⟨fun ⟨a, b, c⟩ => ⟨a.symm, b.symm, c.symm⟩, fun ⟨a, b, c⟩ => ⟨a.symm, b.symm, c.symm⟩⟩
  have z1 := row_zero kBYMONTHDAY Lib.itoa r.byMonthDay
  have z2 := row_zero kBYDAY dayNT r.byDay
  have z3 := row_zero kBYSETPOS Lib.itoa r.bySetPos
  rw [e]
  omega
theorem open_len (T : Int → List UInt8) (r : RuleD) (h : mayR r) : (textR T (openR r)).length ≤ (textR T r).length ∧ ((textR T (openR r)).length < (textR T r).length ↔ ¬ openR r = r) := by
  have h1 := text_len T r
  have h2 := text_len T (openR r)
  have h3 := open_parts T r
  have he : endsMay r := h.2.2.2.2.1
  have e : openR r = r ↔ ¬ 0 < r.count ∧ ¬ 0 ≤ r.until_ := by
    unfold endsMay at he
    cases r
    simp only [openR, RuleD.mk.injEq, true_and, and_true] at he ⊢
    omega
  have z1 := opt_zero (0 < r.count) (kCOUNT ++ Lib.itoa r.count)
  have z2 := opt_zero (0 ≤ r.until_) (kUNTIL ++ T r.until_)
  rw [e]
  omega
end Go.Proofs.YtcleicjgeflbnaaGreatDoor
