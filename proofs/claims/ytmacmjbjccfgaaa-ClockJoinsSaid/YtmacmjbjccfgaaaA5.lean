/- Walks of the clock's functions and what they compute; part A5 of the proof of the laws of layer 3. Conditions: each theorem's own. -/
import Derived.Test.YtmacmjbjccfgaaaA4
namespace Go.Proofs.Ytmacmjbjccfgaaa
open Go.RowKit

theorem toList_strOfNums (l : List Int) : (strOfNums l).toList = l.map fun n => UInt8.ofNat n.toNat := by
  rw [ByteArray.toList_eq, strOfNums_data]

theorem fixed_any (w : World) : Calls Try.prog 10 #[] w fun e w' => e = .returned (.bool true) ∧ Below w.heap.size w w' := by
  have hk : ((strOfNums (stampText 0)).toList == [49, 57, 48, 48, 45, 48, 49, 45, 48, 49, 84, 48, 48, 58, 48, 48]) = true := by
    rw [toList_strOfNums]; decide +kernel
  go_enter Try.func10, Try.ntmps10
  go_wp2_with fail
  refine (stamp_yes 0 (by omega) (by omega) _).mono ?_
  rintro e w1 ⟨rfl, hb1⟩
  go_wp2_with fail
  go_ret
  exact ⟨rfl, hb1⟩

def StampIs (n : Int) (s : ByteArray) (ok : Bool) : Prop := ok = decide (0 ≤ n ∧ n ≤ 158310720) ∧ s = if ok then strOfNums (stampText n) else ⟨#[]⟩
def MinIs (n : Int) (s : ByteArray) (ok : Bool) : Prop := ok = decide (0 ≤ n ∧ n ≤ 1440) ∧ s = if ok then strOfNums (minText n) else ⟨#[]⟩

theorem stamp_any (n : Int) (s : ByteArray) (ok : Bool) (h : StampIs n s ok) (w : World) :
    Calls Try.prog 8 #[.int .i64 n] w fun e w' => e = .returned (.tuple #[.string s, .bool ok]) ∧ Below w.heap.size w w' := by
  obtain ⟨h1, h2⟩ := h
  by_cases hn : 0 ≤ n ∧ n ≤ 158310720
  · rw [decide_eq_true hn] at h1; subst h1; subst h2
    exact stamp_yes n hn.1 hn.2 w
  · rw [decide_eq_false hn] at h1; subst h1; subst h2
    exact stamp_no n (by omega) w

theorem min_any (n : Int) (s : ByteArray) (ok : Bool) (h : MinIs n s ok) (w : World) :
    Calls Try.prog 9 #[.int .i64 n] w fun e w' => e = .returned (.tuple #[.string s, .bool ok]) ∧ Below w.heap.size w w' := by
  obtain ⟨h1, h2⟩ := h
  by_cases hn : 0 ≤ n ∧ n ≤ 1440
  · rw [decide_eq_true hn] at h1; subst h1; subst h2
    exact minute_yes n hn.1 hn.2 w
  · rw [decide_eq_false hn] at h1; subst h1; subst h2
    exact minute_no n (by omega) w

theorem stamp_less (a b : Int) (s t : ByteArray) (ha : StampIs a s true) (hb : StampIs b t true) : Op.bytesLess s.toList t.toList = decide (a < b) := by
  obtain ⟨h1, h2⟩ := ha
  obtain ⟨h3, h4⟩ := hb
  have h1 := of_decide_eq_true h1.symm
  have h3 := of_decide_eq_true h3.symm
  rw [h2, h4, if_pos rfl, if_pos rfl, toList_strOfNums, toList_strOfNums, ll_bytes _ _ (stampText_byte _) (stampText_byte _), Bool.eq_iff_iff, stampText_ll _ _ h1 h3, decide_eq_true_iff]

theorem min_less (a b : Int) (s t : ByteArray) (ha : MinIs a s true) (hb : MinIs b t true) : Op.bytesLess s.toList t.toList = decide (a < b) := by
  obtain ⟨h1, h2⟩ := ha
  obtain ⟨h3, h4⟩ := hb
  have h1 := of_decide_eq_true h1.symm
  have h3 := of_decide_eq_true h3.symm
  rw [h2, h4, if_pos rfl, if_pos rfl, toList_strOfNums, toList_strOfNums, ll_bytes _ _ (minText_byte _) (minText_byte _), Bool.eq_iff_iff, minText_ll _ _ h1.1 h3.1 h1.2 h3.2, decide_eq_true_iff]

set_option maxHeartbeats 8000000 in
theorem order_walk (a b m n : Int) (w : World) : Calls Try.prog 3 #[.int .i64 a, .int .i64 b, .int .i64 m, .int .i64 n] w fun e w' => e = .returned (.bool true) ∧ Below w.heap.size w w' := by
  obtain ⟨s1, o1, H1⟩ : ∃ s o, StampIs a s o := ⟨_, _, rfl, rfl⟩
  obtain ⟨s2, o2, H2⟩ : ∃ s o, StampIs b s o := ⟨_, _, rfl, rfl⟩
  obtain ⟨s3, o3, H3⟩ : ∃ s o, MinIs m s o := ⟨_, _, rfl, rfl⟩
  obtain ⟨s4, o4, H4⟩ : ∃ s o, MinIs n s o := ⟨_, _, rfl, rfl⟩
  have h12 : o1 = true → o2 = true → (!decide (a < b) == Op.bytesLess s1.toList s2.toList) = false := by
    rintro rfl rfl; rw [stamp_less a b s1 s2 H1 H2]; simp
  have h34 : o3 = true → o4 = true → (decide (m < n) == Op.bytesLess s3.toList s4.toList) = true := by
    rintro rfl rfl; rw [min_less m n s3 s4 H3 H4]; simp
  have C1 := stamp_any a s1 o1 H1
  have C2 := stamp_any b s2 o2 H2
  have C3 := min_any m s3 o3 H3
  have C4 := min_any n s4 o4 H4
  clear H1 H2 H3 H4
  have D1 := Lib.hid C1; have D2 := Lib.hid C2; have D3 := Lib.hid C3; have D4 := Lib.hid C4
  clear C1 C2 C3 C4
  cases o1 <;> cases o2 <;> cases o3 <;> cases o4 <;>
  · try simp only [eq_self, true_implies, reduceCtorEq, false_implies, implies_true] at h12 h34
    go_enter Try.func3, Try.ntmps3
    go_wp2_with fail
    refine (D1.out _).mono ?_
    rintro e w1 ⟨rfl, hb1⟩
    go_wp2_with fail
    refine (D2.out _).mono ?_
    rintro e w2 ⟨rfl, hb2⟩
    go_wp2_with fail
    refine (D3.out _).mono ?_
    rintro e w3 ⟨rfl, hb3⟩
    go_wp2_with fail
    refine (D4.out _).mono ?_
    rintro e w4 ⟨rfl, hb4⟩
    go_wp2_with fail
    refine (fixed_any _).mono ?_
    rintro e w5 ⟨rfl, hb5⟩
    go_wp2_with fail
    go_ret
    have b2 := below_call hb1 hb2
    have b3 := below_call b2 hb3
    have b4 := below_call b3 hb4
    exact ⟨by first | rfl | simp [h34], below_call b4 hb5⟩

theorem order_all (a b m n : Int) (w : World) (_ : (Lit.int .i64 a).wf = true) (_ : (Lit.int .i64 b).wf = true) (_ : (Lit.int .i64 m).wf = true) (_ : (Lit.int .i64 n).wf = true) :
    Calls Try.prog 3 #[.int .i64 a, .int .i64 b, .int .i64 m, .int .i64 n] w fun e w' => e = .returned (.bool true) ∧ Below w.heap.size w w' := order_walk a b m n w
end Go.Proofs.Ytmacmjbjccfgaaa
