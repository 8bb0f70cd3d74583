/- Walks of the clock's functions and what they compute; part A5 of the proof of the laws of layer 3. Conditions: each theorem's own. -/
import Derived.Test.YtkbnjigoejalgaaDoorA4
namespace Go.Proofs.YtkbnjigoejalgaaDoor
open Go.RowKit

theorem toList_strOfNums (l : List Int) : (strOfNums l).toList = l.map fun n => UInt8.ofNat n.toNat := by
  rw [ByteArray.toList_eq, strOfNums_data]

theorem fixed_any (w : World) : Calls Tryd.prog 4 #[] w fun e w' => e = .returned (.bool true) ∧ Below w.heap.size w w' := by
  have hk : ((strOfNums (stampText 0)).toList == [49, 57, 48, 48, 45, 48, 49, 45, 48, 49, 84, 48, 48, 58, 48, 48]) = true := by
    rw [toList_strOfNums]; decide +kernel
  go_enter Tryd.func4, Tryd.ntmps4
  go_wp2_with fail
  refine (stamp_yes 0 (by omega) (by omega) _).mono ?_
  rintro e w1 ⟨rfl, hb1⟩
  go_wp2_with fail
  go_ret
  exact ⟨rfl, hb1⟩

def StampIs (n : Int) (s : ByteArray) (ok : Bool) : Prop := ok = decide (0 ≤ n ∧ n ≤ 158310720) ∧ s = if ok then strOfNums (stampText n) else ⟨#[]⟩
def MinIs (n : Int) (s : ByteArray) (ok : Bool) : Prop := ok = decide (0 ≤ n ∧ n ≤ 1440) ∧ s = if ok then strOfNums (minText n) else ⟨#[]⟩

theorem stamp_any (n : Int) (s : ByteArray) (ok : Bool) (h : StampIs n s ok) (w : World) :
    Calls Tryd.prog 8 #[.int .i64 n] w fun e w' => e = .returned (.tuple #[.string s, .bool ok]) ∧ Below w.heap.size w w' := by
  obtain ⟨h1, h2⟩ := h
  by_cases hn : 0 ≤ n ∧ n ≤ 158310720
  · rw [decide_eq_true hn] at h1; subst h1; subst h2
    exact stamp_yes n hn.1 hn.2 w
  · rw [decide_eq_false hn] at h1; subst h1; subst h2
    exact stamp_no n (by omega) w

theorem min_any (n : Int) (s : ByteArray) (ok : Bool) (h : MinIs n s ok) (w : World) :
    Calls Tryd.prog 13 #[.int .i64 n] w fun e w' => e = .returned (.tuple #[.string s, .bool ok]) ∧ Below w.heap.size w w' := by
  obtain ⟨h1, h2⟩ := h
  by_cases hn : 0 ≤ n ∧ n ≤ 1440
  · rw [decide_eq_true hn] at h1; subst h1; subst h2
    exact minute_yes n hn.1 hn.2 w
  · rw [decide_eq_false hn] at h1; subst h1; subst h2
    exact minute_no n (by omega) w

theorem stamp_less (a b : Int) (s t : ByteArray) (ha : StampIs a s true) (hb : StampIs b t true) : Op.bytesLess s.toList t.toList = decide (a < b) := by
  obtain ⟨h1, h2⟩ := ha
  obtain ⟨h3, h4⟩ := hb
  have h1 := of_decide_eq_true h1.symm
  have h3 := of_decide_eq_true h3.symm
  rw [h2, h4, if_pos rfl, if_pos rfl, toList_strOfNums, toList_strOfNums, ll_bytes _ _ (stampText_byte _) (stampText_byte _), Bool.eq_iff_iff, stampText_ll _ _ h1 h3, decide_eq_true_iff]

theorem min_less (a b : Int) (s t : ByteArray) (ha : MinIs a s true) (hb : MinIs b t true) : Op.bytesLess s.toList t.toList = decide (a < b) := by
  obtain ⟨h1, h2⟩ := ha
  obtain ⟨h3, h4⟩ := hb
  have h1 := of_decide_eq_true h1.symm
  have h3 := of_decide_eq_true h3.symm
  rw [h2, h4, if_pos rfl, if_pos rfl, toList_strOfNums, toList_strOfNums, ll_bytes _ _ (minText_byte _) (minText_byte _), Bool.eq_iff_iff, minText_ll _ _ h1.1 h3.1 h1.2 h3.2, decide_eq_true_iff]

end Go.Proofs.YtkbnjigoejalgaaDoor
