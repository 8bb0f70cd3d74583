/- The document's Number, Minute and ReadMinute: part of the proof of the laws of layer 3. Conditions: each theorem's own. -/
import Derived.Test.YtmacmjbjccfgaaaA7
namespace Go.Proofs.Ytmacmjbjccfgaaa
open Go.RowKit

theorem digs_sub (q : Int) (m k : Nat) (h : k < m) (t : List Int) : digs (q / 10) (m - (k + 1)) ++ ((48 + q % 10) :: t) = digs q (m - k) ++ t := by
  obtain ⟨j, hj⟩ : ∃ j, m - k = j + 1 := ⟨m - k - 1, by omega⟩
  rw [hj, show m - (k + 1) = j by omega, digs, List.append_assoc]; rfl

set_option maxHeartbeats 1000000 in
theorem refNumber_any (n : Int) (m : Nat) (h0 : 0 ≤ n) (hn : n < 1000000000) (hm : m ≤ 4) (w : World) :
    Calls Try.prog 23 #[.int .i64 n, .int .i64 m] w fun e w' => e = .returned (.string (strOfNums (digs n m))) ∧ Below w.heap.size w w' := by
  go_enter Try.func23, Try.ntmps23
  go_wp2
  go_loopw [0, 5, 6] (fun a b c wr => ∃ (k : Nat) (q : Int) (t : List Int), k ≤ m ∧ 0 ≤ q ∧ q < 1000000000 ∧ a = .int .i64 q ∧ b = .string (strOfNums t) ∧ c = .int .i64 k ∧ t.length = k ∧ digs q (m - k) ++ t = digs n m ∧ Below w.heap.size w wr)
    (fun _ _ c _ => m - (intOf c).toNat)
  case atStart => exact ⟨0, n, [], Nat.zero_le _, h0, hn, rfl, rfl, rfl, rfl, by simp, Below.refl _ _⟩
  case round =>
    obtain ⟨k, q, t, hk, hq0, hq1, rfl, rfl, rfl, htl, ht, hB⟩ := hrel
    by_cases hlt : k < m
    · have hcv := run_convert_bytes_arg (P := Try.prog) (wr.alloc (.cells #[.int .u8 (48 + q % 10)] 5)) 52 5 Try.underlying52 Try.underlying5 wr.heap.size 0 1 1 [48 + q % 10] rfl (fun i hi => by
        rw [World.cell?_alloc_at _ _ _ _ rfl]
        have : i = 0 := by omega
        subst this; rfl) 9 Try.underlying9
      have hd := digs_sub q m k hlt t
      have hsz := strOfNums_size t
      have hsz1 := strOfNums_size [48 + q % 10]
      simp only [List.length_cons, List.length_nil] at hsz1
      have Hd := Lib.hid (hd.trans ht)
      have Htl := Lib.hid htl
      have hsz' : (strOfNums t).size ≤ 4 := by omega
      clear hd ht htl hsz
      go_wp2
      go_roundw
      case rel => exact ⟨k + 1, q / 10, (48 + q % 10) :: t, by omega, by omega, by omega, rfl, by rw [strOfNums_append]; rfl, by go_num, by rw [List.length_cons, Htl.out], Hd.out, hB.alloc hB.size _⟩
      case measure => simp [intOf]; omega
    · have hkm : k = m := by omega
      subst hkm
      rw [Nat.sub_self] at ht
      have Ht := Lib.hid ht
      clear ht
      go_wp2
      go_ret
      exact ⟨by have := Ht.out; rw [← this]; rfl, hB⟩

theorem refNumber2 (n : Int) (h0 : 0 ≤ n) (hn : n < 1000000000) (w : World) :
    Calls Try.prog 23 #[.int .i64 n, .int .i64 2] w fun e w' => e = .returned (.string (strOfNums (digs n 2))) ∧ Below w.heap.size w w' :=
  refNumber_any n 2 h0 hn (by omega) w

theorem refNumber4 (n : Int) (h0 : 0 ≤ n) (hn : n < 1000000000) (w : World) :
    Calls Try.prog 23 #[.int .i64 n, .int .i64 4] w fun e w' => e = .returned (.string (strOfNums (digs n 4))) ∧ Below w.heap.size w w' :=
  refNumber_any n 4 h0 hn (by omega) w

theorem ret_i {a b : Int} (h : a = b) : Ending.returned (.int .i64 a) = Ending.returned (.int .i64 b) := by rw [h]
theorem ret_s {a b : ByteArray} (h : a = b) : Ending.returned (.string a) = Ending.returned (.string b) := by rw [h]

set_option maxHeartbeats 1000000 in
theorem refMinute_any (n : Int) (h0 : 0 ≤ n) (h1 : n ≤ 1440) (w : World) :
    Calls Try.prog 11 #[.int .i64 n] w fun e w' => e = .returned (.string (strOfNums (minText n))) ∧ Below w.heap.size w w' := by
  have s1 := strOfNums_size (digs (n / 60) 2)
  have s2 := strOfNums_size (digs (n % 60) 2)
  rw [digs_length] at s1 s2
  go_enter Try.func11, Try.ntmps11
  go_wp2_with fail
  refine (refNumber2 _ (by omega) (by omega) _).mono ?_
  rintro e w1 ⟨rfl, hb1⟩
  go_wp2_with fail
  refine (refNumber2 _ (by omega) (by omega) _).mono ?_
  rintro e w2 ⟨rfl, hb2⟩
  go_wp2
  go_ret
  refine ⟨ret_s ?_, below_call hb1 hb2⟩
  rw [show (⟨#[58]⟩ : ByteArray) = strOfNums [58] from rfl, strOfNums_append, strOfNums_append, List.append_assoc]
  rfl

/-- What the document's ReadMinute answers. -/
def RefMin (s : ByteArray) (r : Int) : Prop := (0 ≤ r ∧ r ≤ 1440 ∧ s = strOfNums (minText r)) ∨ (r = -1 ∧ ∀ n, 0 ≤ n → n ≤ 1440 → s ≠ strOfNums (minText n))

theorem strOfNums_inj : ∀ (a b : List Int), (∀ c ∈ a, 0 ≤ c ∧ c < 256) → (∀ c ∈ b, 0 ≤ c ∧ c < 256) → strOfNums a = strOfNums b → a = b := by
  intro a b ha hb h
  have h3 : (strOfNums a).data.toList = (strOfNums b).data.toList := by rw [h]
  rw [strOfNums_data, strOfNums_data] at h3
  clear h
  induction a generalizing b with
  | nil => cases b with
    | nil => rfl
    | cons y b => simp at h3
  | cons x a ih =>
    cases b with
    | nil => simp at h3
    | cons y b =>
      simp only [List.map_cons, List.cons.injEq] at h3
      have h1 := ha x (by simp)
      have h2 := hb y (by simp)
      have e := congrArg UInt8.toNat h3.1
      rw [UInt8.toNat_ofNat', UInt8.toNat_ofNat'] at e
      rw [ih b (fun c hc => ha c (by simp [hc])) (fun c hc => hb c (by simp [hc])) h3.2, show x = y by omega]

theorem minText_inj (a b : Int) (ha : 0 ≤ a ∧ a ≤ 1440) (hb : 0 ≤ b ∧ b ≤ 1440) (h : strOfNums (minText a) = strOfNums (minText b)) : a = b := by
  have e := strOfNums_inj _ _ (minText_byte a) (minText_byte b) h
  have h1 := minText_ll a b ha.1 hb.1 ha.2 hb.2
  have h2 := minText_ll b a hb.1 ha.1 hb.2 ha.2
  have h3 := minText_ll a a ha.1 ha.1 ha.2 ha.2
  rw [e] at h1 h2 h3
  have q1 : ¬ a < b := fun h => absurd (h3.1 (h1.2 h)) (by omega)
  have q2 : ¬ b < a := fun h => absurd (h3.1 (h2.2 h)) (by omega)
  omega

set_option maxHeartbeats 1000000 in
theorem refReadMin_any (s : ByteArray) (r : Int) (h : RefMin s r) (w : World) :
    Calls Try.prog 13 #[.string s] w fun e w' => e = .returned (.int .i64 r) ∧ Below w.heap.size w w' := by
  have Hr := Lib.hid h
  clear h
  go_enter Try.func13, Try.ntmps13
  go_wp2
  go_loopw [3] (fun a wr => ∃ k : Int, 0 ≤ k ∧ k ≤ 1441 ∧ a = .int .i64 k ∧ (∀ n, 0 ≤ n → n < k → s ≠ strOfNums (minText n)) ∧ Below w.heap.size w wr)
    (fun a _ => (1441 - intOf a).toNat)
  case atStart => exact ⟨0, by omega, by omega, rfl, fun n h1 h2 => by omega, Below.refl _ _⟩
  case round =>
    obtain ⟨k, hk0, hk1, rfl, hno, hB⟩ := hrel
    have Hno := Lib.hid hno
    clear hno
    by_cases hk : k ≤ 1440
    · by_cases he : s = strOfNums (minText k)
      · have heq : ((strOfNums (minText k)).toList == s.toList) = true := by rw [he]; simp
        have Hk : r = k := by
          rcases Hr.out with ⟨h1, h2, h3⟩ | ⟨h1, h2⟩
          · exact minText_inj r k ⟨h1, h2⟩ ⟨hk0, hk⟩ (h3.symm.trans he)
          · exact absurd he (h2 k hk0 hk)
        have HK := Lib.hid Hk
        have He := Lib.hid he
        clear Hk he
        go_wp2_with fail
        refine (refMinute_any _ (by omega) (by omega) _).mono ?_
        rintro e w1 ⟨rfl, hb1⟩
        go_wp2
        go_ret
        exact ⟨ret_i HK.out.symm, below_call hB hb1⟩
      · have heq : ((strOfNums (minText k)).toList == s.toList) = false := by
          rw [beq_eq_false_iff_ne]
          intro e
          apply he
          rw [ByteArray.toList_eq, ByteArray.toList_eq] at e
          exact (ByteArray.ext (Array.toList_inj.1 e)).symm
        have He := Lib.hid he
        clear he
        go_wp2_with fail
        refine (refMinute_any _ (by omega) (by omega) _).mono ?_
        rintro e w1 ⟨rfl, hb1⟩
        go_wp2
        go_roundw
        case rel => exact ⟨k + 1, by omega, by omega, rfl, fun n h1 h2 => by
          by_cases e : n = k
          · subst e; exact He.out
          · exact Hno.out n h1 (by omega), below_call hB hb1⟩
        case measure => simp [intOf]; omega
    · have Hk : r = -1 := by
        rcases Hr.out with ⟨h1, h2, h3⟩ | ⟨h1, h2⟩
        · exact absurd h3 (Hno.out r h1 (by omega))
        · exact h1
      have HK := Lib.hid Hk
      clear Hk
      go_wp2
      go_ret
      exact ⟨ret_i HK.out.symm, hB⟩
end Go.Proofs.Ytmacmjbjccfgaaa
