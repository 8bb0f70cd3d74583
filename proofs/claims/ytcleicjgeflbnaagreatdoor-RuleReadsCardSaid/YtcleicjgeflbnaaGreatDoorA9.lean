/- clock.number and ReadMinute: what they read; part of the proof of the laws of layer 3. Conditions: each theorem's own. ReadMinute, the document's Minute and ReadMinute: part of the proof of the laws of layer 3. Conditions: each theorem's own. The document's Number, Minute and ReadMinute: part of the proof of the laws of layer 3. Conditions: each theorem's own. What ReadMinute reads: the plain law; part of the proof of the laws of layer 3. Conditions: each theorem's own. -/
import Derived.Test.YtcleicjgeflbnaaGreatDoorA4
import Derived.Laws.RangeAny
import Derived.Lib.RuneCount
import Derived.WalkSpells
namespace Go.Proofs.YtcleicjgeflbnaaGreatDoor
open Go.RowKit
set_option linter.all false

def numB : List UInt8 → Int → Option Int
  | [], acc => some acc
  | c :: l, acc => if 48 ≤ c.toNat ∧ c.toNat ≤ 57 then numB l (10 * acc + ((c.toNat : Int) - 48)) else none

def numV (s : ByteArray) : Int × Bool := match numB s.data.toList 0 with
  | some n => (n, !s.toList.isEmpty)
  | none => (0, false)

theorem drop_cons (s : ByteArray) (pos : Nat) (h : pos < s.size) : s.data.toList.drop pos = s[pos] :: s.data.toList.drop (pos + 1) := by
  rw [List.drop_eq_getElem_cons (by simpa using h)]; rfl

theorem below_iter (w : World) (s : ByteArray) (pos : Nat) : Below w.heap.size w (w.iter s pos) := (Below.refl _ _).alloc (Nat.le_refl _) _

theorem num_ret {s : ByteArray} {n : Int} {b : Bool} (h : numV s = (n, b)) :
    Ending.returned (.tuple #[.int .i64 n, .bool b]) = Ending.returned (.tuple #[.int .i64 (numV s).1, .bool (numV s).2]) := by rw [h]

set_option maxHeartbeats 1000000 in
theorem number_any_c (s : ByteArray) (hs : s.size ≤ 8) (w : World) :
    Calls Tryz.prog 88 #[.string s] w fun e w' => e = .returned (.tuple #[.int .i64 (numV s).1, .bool (numV s).2]) ∧ Below w.heap.size w w' := by
  go_enter Tryz.func88, Tryz.ntmps88
  go_wp2
  go_loopw [4] (fun n wr => ∃ (pos : Nat) (acc : Int), pos ≤ s.size ∧ wr = w.iter s pos ∧ n = .int .i64 acc ∧ 0 ≤ acc ∧ acc < 10 ^ pos ∧ numB s.data.toList 0 = numB (s.data.toList.drop pos) acc) (fun _ wr => s.size - wr.iterPos w.heap.size)
  case atStart => exact ⟨0, 0, by omega, rfl, rfl, by omega, by omega, rfl⟩
  case round =>
    obtain ⟨pos, acc, hpos, rfl, rfl, ha0, ha1, hn⟩ := hrel
    have hp10 : (10 : Int) ^ pos ≤ 10 ^ 8 := by
      have : (10 : Nat) ^ pos ≤ 10 ^ 8 := Nat.pow_le_pow_right (by omega) (by omega)
      exact_mod_cast this
    have hacc : acc < 100000000 := by omega
    by_cases hp : pos < s.size
    · have hnx : ∀ ty, (Instr.next (.pointer (some ⟨w.heap.size, 0, none⟩)) true ty).run Tryz.prog (w.iter s pos) = _ := fun ty => run_next_any w s pos ty hp
      rw [drop_cons s pos hp] at hn
      by_cases hd : 48 ≤ (s[pos]).toNat ∧ (s[pos]).toNat ≤ 57
      · rw [decode_ascii s pos hp (by omega)] at hnx
        have h1 : (48 : Int) ≤ ((s[pos]).toNat : Int) := by omega
        have h2 : ((s[pos]).toNat : Int) ≤ 57 := by omega
        have H : numB s.data.toList 0 = numB (s.data.toList.drop (pos + 1)) (10 * acc + (((s[pos]).toNat : Int) - 48)) := by rw [hn, numB, if_pos hd]
        have Hn := Lib.hid H
        clear H hn
        go_wp2
        go_roundw
        case rel => exact ⟨pos + 1, 10 * acc + (((s[pos]).toNat : Int) - 48), by omega, rfl, rfl, by omega, by rw [Int.pow_succ]; omega, Hn.out⟩
        case measure => simp; omega
      · have hr : (Utf8.decode s pos).1 < 48 ∨ 57 < (Utf8.decode s pos).1 := by
          by_cases ha : (s[pos]).toNat < 128
          · rw [decode_ascii s pos hp ha]; simp; omega
          · have := (decode_high s pos hp (by omega)).1; omega
        have H : numV s = (0, false) := by unfold numV; rw [hn, numB, if_neg hd]
        have Hn := Lib.hid H
        clear H hn
        generalize (Utf8.decode s pos).1 = r at *
        rcases hr with hr | hr
        · have hr' : (r : Int) < 48 := by omega
          go_wp2
          go_ret2
          exact ⟨num_ret Hn.out, below_iter _ _ _⟩
        · have hr' : ¬ (r : Int) < 48 := by omega
          have hr'' : 57 < (r : Int) := by omega
          go_wp2
          go_ret2
          exact ⟨num_ret Hn.out, below_iter _ _ _⟩
    · have hnx : ∀ ty, (Instr.next (.pointer (some ⟨w.heap.size, 0, none⟩)) true ty).run Tryz.prog (w.iter s pos) = _ := fun ty => run_next_end w s pos ty hp
      have H : numV s = (acc, !s.toList.isEmpty) := by
        unfold numV; rw [hn, List.drop_of_length_le (by simp; omega)]; rfl
      have Hn := Lib.hid H
      clear H hn
      go_wp2
      go_ret2
      exact ⟨num_ret Hn.out, below_iter _ _ _⟩
end Go.Proofs.YtcleicjgeflbnaaGreatDoor
namespace Go.Proofs.YtcleicjgeflbnaaGreatDoor
open Go.RowKit
set_option linter.all false

theorem numB_bd (l : List UInt8) : ∀ (acc n : Int), 0 ≤ acc → numB l acc = some n → 0 ≤ n ∧ n < (acc + 1) * 10 ^ l.length := by
  induction l with
  | nil => intro acc n h e; simp [numB] at e; subst e; simp; omega
  | cons c l ih =>
    intro acc n h e
    rw [numB] at e
    split at e
    · have := ih _ _ (by omega) e
      refine ⟨this.1, ?_⟩
      rw [List.length_cons, Int.pow_succ]
      have h9 : (10 * acc + ((c.toNat : Int) - 48) + 1) ≤ (acc + 1) * 10 := by omega
      have hp : (0 : Int) ≤ 10 ^ l.length := Int.le_of_lt (Int.pow_pos (by omega))
      have := Int.mul_le_mul_of_nonneg_right h9 hp
      rw [Int.mul_assoc, Int.mul_comm 10 (10 ^ l.length)] at this
      omega
    · simp at e

theorem numV_bd (s : ByteArray) (h : s.size ≤ 4) : 0 ≤ (numV s).1 ∧ (numV s).1 ≤ 9999 := by
  unfold numV
  split
  · rename_i n e
    have := numB_bd _ _ _ (by omega) e
    have hp : (10 : Int) ^ s.data.toList.length ≤ 10 ^ 4 := by
      have : (10 : Nat) ^ s.data.toList.length ≤ 10 ^ 4 := Nat.pow_le_pow_right (by omega) (by simpa using h)
      exact_mod_cast this
    simp only [Int.zero_add, Int.one_mul] at this
    have : (10 : Int) ^ 4 = 10000 := by decide
    omega
  · simp

def rmF (s : ByteArray) : Int × Bool :=
  if s.size = 5 ∧ (s.data.toList.getD 2 0).toNat = 58 ∧ (numV (s.extract 0 2)).2 = true ∧ (numV (s.extract 3 5)).2 = true ∧ (numV (s.extract 3 5)).1 ≤ 59 ∧ 60 * (numV (s.extract 0 2)).1 + (numV (s.extract 3 5)).1 ≤ 1440
  then (60 * (numV (s.extract 0 2)).1 + (numV (s.extract 3 5)).1, true) else (0, false)

theorem rm_ret {s : ByteArray} {n : Int} {b : Bool} (h : rmF s = (n, b)) :
    Ending.returned (.tuple #[.int .i64 n, .bool b]) = Ending.returned (.tuple #[.int .i64 (rmF s).1, .bool (rmF s).2]) := by rw [h]

theorem getD_get (s : ByteArray) (i : Nat) (h : i < s.size) : s.data.toList.getD i 0 = s[i] := by
  have h' : i < s.data.toList.length := by simpa using h
  simp [List.getD, List.getElem?_eq_getElem h']; rfl

set_option maxHeartbeats 4000000 in
theorem readMin_any (s : ByteArray) (w : World) :
    Calls Tryz.prog 89 #[.string s] w fun e w' => e = .returned (.tuple #[.int .i64 (rmF s).1, .bool (rmF s).2]) ∧ Below w.heap.size w w' := by
  by_cases h5 : s.size = 5
  · have hg := getD_get s 2 (by omega)
    by_cases h2 : (s[2]'(by omega)).toNat = 58
    · obtain ⟨x, o1, e1⟩ : ∃ x o, numV (s.extract 0 2) = (x, o) := ⟨_, _, rfl⟩
      obtain ⟨y, o2, e2⟩ : ∃ x o, numV (s.extract 3 5) = (x, o) := ⟨_, _, rfl⟩
      have D1 := Lib.hid (fun w => number_any_c (s.extract 0 2) (by simp; omega) w)
      have D2 := Lib.hid (fun w => number_any_c (s.extract 3 5) (by simp; omega) w)
      have b1 := numV_bd (s.extract 0 2) (by simp; omega)
      have b2 := numV_bd (s.extract 3 5) (by simp; omega)
      rw [e1] at D1 b1
      rw [e2] at D2 b2
      have hF : rmF s = if o1 = true ∧ o2 = true ∧ y ≤ 59 ∧ 60 * x + y ≤ 1440 then (60 * x + y, true) else (0, false) := by
        unfold rmF; rw [e1, e2, hg]; simp [h5, h2]
      obtain ⟨b3, b4⟩ := b1
      obtain ⟨b5, b6⟩ := b2
      simp only at b3 b4 b5 b6
      by_cases hok : o1 = true ∧ o2 = true ∧ y ≤ 59 ∧ 60 * x + y ≤ 1440
      · rw [if_pos hok] at hF
        have HF := Lib.hid hF
        obtain ⟨rfl, rfl, hy, hz⟩ := hok
        have hy' : ¬ 59 < y := by omega
        have hz' : ¬ 1440 < 60 * x + y := by omega
        clear hF e1 e2 hg

        go_enter Tryz.func89, Tryz.ntmps89
        go_wp2_with fail
        (with_reducible refine (D1.out _).mono ?_)
        rintro e w1 ⟨rfl, hb1⟩
        go_wp2_with fail
        (with_reducible refine (D2.out _).mono ?_)
        rintro e w2 ⟨rfl, hb2⟩
        go_wp2_with fail
        go_ret2
        exact ⟨rm_ret HF.out, below_callA hb1 hb2⟩
      · rw [if_neg hok] at hF
        have HF := Lib.hid hF
        have Hok := Lib.hid hok
        clear hF e1 e2 hg hok
        go_enter Tryz.func89, Tryz.ntmps89
        go_wp2_with fail
        (with_reducible refine (D1.out _).mono ?_)
        rintro e w1 ⟨rfl, hb1⟩
        go_wp2_with fail
        (with_reducible refine (D2.out _).mono ?_)
        rintro e w2 ⟨rfl, hb2⟩
        go_wp2_with fail
        all_goals first
          | (go_ret2; exact ⟨rm_ret HF.out, below_callA hb1 hb2⟩)
          | (exfalso; apply Hok.out; simp_all)
    · have hF : rmF s = (0, false) := by unfold rmF; rw [hg, if_neg (by simp [h2])]
      have HF := Lib.hid hF
      clear hF hg
      go_enter Tryz.func89, Tryz.ntmps89
      go_wp2
      go_ret2
      exact ⟨rm_ret HF.out, Below.refl _ _⟩
  · have hF : rmF s = (0, false) := by unfold rmF; rw [if_neg (by simp [h5])]
    have HF := Lib.hid hF
    clear hF
    have h' : (s.size == 5) = false := by simp [h5]
    go_enter Tryz.func89, Tryz.ntmps89
    go_wp2
    go_ret2
    exact ⟨rm_ret HF.out, Below.refl _ _⟩
end Go.Proofs.YtcleicjgeflbnaaGreatDoor
namespace Go.Proofs.YtcleicjgeflbnaaGreatDoor
open Go.RowKit
set_option linter.all false

theorem digs_sub (q : Int) (m k : Nat) (h : k < m) (t : List Int) : digs (q / 10) (m - (k + 1)) ++ ((48 + q % 10) :: t) = digs q (m - k) ++ t := by
  obtain ⟨j, hj⟩ : ∃ j, m - k = j + 1 := ⟨m - k - 1, by omega⟩
  rw [hj, show m - (k + 1) = j by omega, digs, List.append_assoc]; rfl

set_option maxHeartbeats 1000000 in
theorem refNumber_any (n : Int) (m : Nat) (h0 : 0 ≤ n) (hn : n < 1000000000) (hm : m ≤ 4) (w : World) :
    Calls Tryz.prog 53 #[.int .i64 n, .int .i64 m] w fun e w' => e = .returned (.string (strOfNums (digs n m))) ∧ Below w.heap.size w w' := by
  go_enter Tryz.func53, Tryz.ntmps53
  go_wp2
  go_loopw [0, 5, 6] (fun a b c wr => ∃ (k : Nat) (q : Int) (t : List Int), k ≤ m ∧ 0 ≤ q ∧ q < 1000000000 ∧ a = .int .i64 q ∧ b = .string (strOfNums t) ∧ c = .int .i64 k ∧ t.length = k ∧ digs q (m - k) ++ t = digs n m ∧ Below w.heap.size w wr)
    (fun _ _ c _ => m - (intOf c).toNat)
  case atStart => exact ⟨0, n, [], Nat.zero_le _, h0, hn, rfl, rfl, rfl, rfl, by simp, Below.refl _ _⟩
  case round =>
    obtain ⟨k, q, t, hk, hq0, hq1, rfl, rfl, rfl, htl, ht, hB⟩ := hrel
    by_cases hlt : k < m
    · have hcv := run_convert_bytes_arg (P := Tryz.prog) (wr.alloc (.cells #[.int .u8 (48 + q % 10)] 5)) 78 5 Tryz.underlying78 Tryz.underlying5 wr.heap.size 0 1 1 [48 + q % 10] rfl (fun i hi => by
        rw [World.cell?_alloc_at _ _ _ _ rfl]
        have : i = 0 := by omega
        subst this; rfl) 9 Tryz.underlying9
      have hd := digs_sub q m k hlt t
      have hsz := strOfNums_size t
      have hsz1 := strOfNums_size [48 + q % 10]
      simp only [List.length_cons, List.length_nil] at hsz1
      have Hd := Lib.hid (hd.trans ht)
      have Htl := Lib.hid htl
      have hsz' : (strOfNums t).size ≤ 4 := by omega
      clear hd ht htl hsz
      go_wp2
      go_roundw
      case rel => exact ⟨k + 1, q / 10, (48 + q % 10) :: t, by omega, by omega, by omega, rfl, by rw [strOfNums_append]; rfl, by go_num, by rw [List.length_cons, Htl.out], Hd.out, hB.alloc hB.size _⟩
      case measure => simp [intOf]; omega
    · have hkm : k = m := by omega
      subst hkm
      rw [Nat.sub_self] at ht
      have Ht := Lib.hid ht
      clear ht
      go_wp2
      go_ret
      exact ⟨by have := Ht.out; rw [← this]; rfl, hB⟩

theorem refNumber2 (n : Int) (h0 : 0 ≤ n) (hn : n < 1000000000) (w : World) :
    Calls Tryz.prog 53 #[.int .i64 n, .int .i64 2] w fun e w' => e = .returned (.string (strOfNums (digs n 2))) ∧ Below w.heap.size w w' :=
  refNumber_any n 2 h0 hn (by omega) w

theorem refNumber4 (n : Int) (h0 : 0 ≤ n) (hn : n < 1000000000) (w : World) :
    Calls Tryz.prog 53 #[.int .i64 n, .int .i64 4] w fun e w' => e = .returned (.string (strOfNums (digs n 4))) ∧ Below w.heap.size w w' :=
  refNumber_any n 4 h0 hn (by omega) w

theorem ret_i {a b : Int} (h : a = b) : Ending.returned (.int .i64 a) = Ending.returned (.int .i64 b) := by rw [h]
theorem ret_s {a b : ByteArray} (h : a = b) : Ending.returned (.string a) = Ending.returned (.string b) := by rw [h]

set_option maxHeartbeats 1000000 in
theorem refMinute_any (n : Int) (h0 : 0 ≤ n) (h1 : n ≤ 1440) (w : World) :
    Calls Tryz.prog 55 #[.int .i64 n] w fun e w' => e = .returned (.string (strOfNums (minText n))) ∧ Below w.heap.size w w' := by
  have s1 := strOfNums_size (digs (n / 60) 2)
  have s2 := strOfNums_size (digs (n % 60) 2)
  rw [digs_length] at s1 s2
  go_enter Tryz.func55, Tryz.ntmps55
  go_wp2_with fail
  refine (refNumber2 _ (by omega) (by omega) _).mono ?_
  rintro e w1 ⟨rfl, hb1⟩
  go_wp2_with fail
  refine (refNumber2 _ (by omega) (by omega) _).mono ?_
  rintro e w2 ⟨rfl, hb2⟩
  go_wp2
  go_ret
  refine ⟨ret_s ?_, below_callA hb1 hb2⟩
  rw [show (⟨#[58]⟩ : ByteArray) = strOfNums [58] from rfl, strOfNums_append, strOfNums_append, List.append_assoc]
  rfl

/-- What the document's ReadMinute answers. -/
def RefMin (s : ByteArray) (r : Int) : Prop := (0 ≤ r ∧ r ≤ 1440 ∧ s = strOfNums (minText r)) ∨ (r = -1 ∧ ∀ n, 0 ≤ n → n ≤ 1440 → s ≠ strOfNums (minText n))

theorem strOfNums_inj : ∀ (a b : List Int), (∀ c ∈ a, 0 ≤ c ∧ c < 256) → (∀ c ∈ b, 0 ≤ c ∧ c < 256) → strOfNums a = strOfNums b → a = b := by
  intro a b ha hb h
  have h3 : (strOfNums a).data.toList = (strOfNums b).data.toList := by rw [h]
  rw [strOfNums_data, strOfNums_data] at h3
  clear h
  induction a generalizing b with
  | nil => cases b with
    | nil => rfl
    | cons y b => simp at h3
  | cons x a ih =>
    cases b with
    | nil => simp at h3
    | cons y b =>
      simp only [List.map_cons, List.cons.injEq] at h3
      have h1 := ha x (by simp)
      have h2 := hb y (by simp)
      have e := congrArg UInt8.toNat h3.1
      rw [UInt8.toNat_ofNat', UInt8.toNat_ofNat'] at e
      rw [ih b (fun c hc => ha c (by simp [hc])) (fun c hc => hb c (by simp [hc])) h3.2, show x = y by omega]

theorem minText_inj (a b : Int) (ha : 0 ≤ a ∧ a ≤ 1440) (hb : 0 ≤ b ∧ b ≤ 1440) (h : strOfNums (minText a) = strOfNums (minText b)) : a = b := by
  have e := strOfNums_inj _ _ (minText_byte a) (minText_byte b) h
  have h1 := minText_ll a b ha.1 hb.1 ha.2 hb.2
  have h2 := minText_ll b a hb.1 ha.1 hb.2 ha.2
  have h3 := minText_ll a a ha.1 ha.1 ha.2 ha.2
  rw [e] at h1 h2 h3
  have q1 : ¬ a < b := fun h => absurd (h3.1 (h1.2 h)) (by omega)
  have q2 : ¬ b < a := fun h => absurd (h3.1 (h2.2 h)) (by omega)
  omega

end Go.Proofs.YtcleicjgeflbnaaGreatDoor
namespace Go.Proofs.YtcleicjgeflbnaaGreatDoor
open Go.RowKit
set_option linter.all false

theorem extr (s : ByteArray) (i j : Nat) : (s.extract i j).data.toList = (s.data.toList.drop i).take (j - i) := by
  rw [ByteArray.data_extract, Array.toList_extract, List.extract_eq_take_drop]

theorem numV_of (s : ByteArray) (l : List UInt8) (h : s.data.toList = l) : numV s = match numB l 0 with
  | some n => (n, !l.isEmpty)
  | none => (0, false) := by
  unfold numV; rw [ByteArray.toList_eq, h]
  all_goals (cases numB l 0 <;> rfl)

theorem numB2 (a b : UInt8) : numB [a, b] 0 = if 48 ≤ a.toNat ∧ a.toNat ≤ 57 ∧ 48 ≤ b.toNat ∧ b.toNat ≤ 57 then some (10 * ((a.toNat : Int) - 48) + ((b.toNat : Int) - 48)) else none := by
  simp only [numB]
  by_cases ha : 48 ≤ a.toNat ∧ a.toNat ≤ 57
  · by_cases hb : 48 ≤ b.toNat ∧ b.toNat ≤ 57
    · rw [if_pos ha, if_pos hb, if_pos ⟨ha.1, ha.2, hb.1, hb.2⟩]; simp
    · rw [if_pos ha, if_neg hb, if_neg (by omega)]
  · rw [if_neg ha, if_neg (by omega)]

theorem list5 (l : List UInt8) (h : l.length = 5) : ∃ a b c d e, l = [a, b, c, d, e] := by
  match l, h with
  | [a, b, c, d, e], _ => exact ⟨a, b, c, d, e, rfl⟩

theorem u8_int (a : UInt8) (n : Int) (h : (a.toNat : Int) = n) : a = UInt8.ofNat n.toNat := by
  apply UInt8.toNat_inj.1
  rw [UInt8.toNat_ofNat']
  have := a.toNat_lt
  omega

theorem digs2_eq (n : Int) (h0 : 0 ≤ n) (h1 : n ≤ 99) : digs n 2 = [48 + n / 10, 48 + n % 10] := by
  simp only [digs, List.nil_append, List.cons_append]
  congr 2
  omega

theorem bytes_of (s : ByteArray) (l : List Int) (h : s.data.toList = l.map fun n => UInt8.ofNat n.toNat) : s = strOfNums l := by
  apply ByteArray.ext
  apply Array.toList_inj.1
  rw [h, strOfNums_data]

theorem rmF_true (s : ByteArray) (n : Int) (h : rmF s = (n, true)) : 0 ≤ n ∧ n ≤ 1440 ∧ s = strOfNums (minText n) := by
  unfold rmF at h
  split at h
  · rename_i hc
    obtain ⟨h5, h2, o1, o2, hy, hz⟩ := hc
    obtain ⟨a, b, c, d, e, hl⟩ := list5 s.data.toList (by simpa using h5)
    rw [numV_of (s.extract 0 2) [a, b] (by rw [extr, hl]; rfl)] at *
    rw [numV_of (s.extract 3 5) [d, e] (by rw [extr, hl]; rfl)] at *
    rw [numB2, numB2] at *
    rw [hl] at h2
    simp only [List.getD_cons_succ, List.getD_cons_zero] at h2
    by_cases h1 : 48 ≤ a.toNat ∧ a.toNat ≤ 57 ∧ 48 ≤ b.toNat ∧ b.toNat ≤ 57
    · rw [if_pos h1] at *
      by_cases h3 : 48 ≤ d.toNat ∧ d.toNat ≤ 57 ∧ 48 ≤ e.toNat ∧ e.toNat ≤ 57
      · rw [if_pos h3] at *
        simp only [Prod.mk.injEq, and_true] at h hy hz
        refine ⟨by omega, by omega, ?_⟩
        apply bytes_of
        rw [hl]
        unfold minText
        rw [digs2_eq (n / 60) (by omega) (by omega), digs2_eq (n % 60) (by omega) (by omega)]
        simp only [List.cons_append, List.nil_append, List.map_cons, List.map_nil]
        rw [← u8_int a _ (by omega), ← u8_int b _ (by omega), ← u8_int c 58 (by omega), ← u8_int d _ (by omega), ← u8_int e _ (by omega)]
      · rw [if_neg h3] at o2; simp at o2
    · rw [if_neg h1] at o1; simp at o1
  · simp at h

theorem rmF_text (n : Int) (h0 : 0 ≤ n) (h1 : n ≤ 1440) : rmF (strOfNums (minText n)) = (n, true) := by
  have hl : (strOfNums (minText n)).data.toList = [UInt8.ofNat (48 + n / 60 / 10).toNat, UInt8.ofNat (48 + n / 60 % 10).toNat, 58, UInt8.ofNat (48 + n % 60 / 10).toNat, UInt8.ofNat (48 + n % 60 % 10).toNat] := by
    rw [strOfNums_data]
    unfold minText
    rw [digs2_eq (n / 60) (by omega) (by omega), digs2_eq (n % 60) (by omega) (by omega)]
    rfl
  have e1 : numV ((strOfNums (minText n)).extract 0 2) = (n / 60, true) := by
    rw [numV_of _ [UInt8.ofNat (48 + n / 60 / 10).toNat, UInt8.ofNat (48 + n / 60 % 10).toNat] (by rw [extr, hl]; rfl), numB2, UInt8.toNat_ofNat', UInt8.toNat_ofNat', if_pos (by omega)]
    simp only [List.isEmpty_cons, Bool.not_false, Prod.mk.injEq, and_true]
    omega
  have e2 : numV ((strOfNums (minText n)).extract 3 5) = (n % 60, true) := by
    rw [numV_of _ [UInt8.ofNat (48 + n % 60 / 10).toNat, UInt8.ofNat (48 + n % 60 % 10).toNat] (by rw [extr, hl]; rfl), numB2, UInt8.toNat_ofNat', UInt8.toNat_ofNat', if_pos (by omega)]
    simp only [List.isEmpty_cons, Bool.not_false, Prod.mk.injEq, and_true]
    omega
  unfold rmF
  rw [e1, e2, hl, if_pos ⟨by rw [strOfNums_size]; simp [minText, digs_length], rfl, rfl, rfl, by simp only; omega, by simp only; omega⟩]
  simp only [Prod.mk.injEq, and_true]
  omega

theorem rmF_ref (s : ByteArray) (r : Int) (h : RefMin s r) : rmF s = if 0 ≤ r then (r, true) else (0, false) := by
  rcases h with ⟨h0, h1, rfl⟩ | ⟨rfl, h⟩
  · rw [if_pos h0]; exact rmF_text r h0 h1
  · rw [if_neg (by omega)]
    cases hr : rmF s with
    | mk n b =>
      cases b with
      | true => have := rmF_true s n hr; exact absurd this.2.2 (h n this.1 this.2.1)
      | false =>
        unfold rmF at hr
        split at hr
        · simp at hr
        · exact hr.symm

theorem refMin_ex (s : ByteArray) : ∃ r, RefMin s r := by
  by_cases h : ∃ n, 0 ≤ n ∧ n ≤ 1440 ∧ s = strOfNums (minText n)
  · obtain ⟨n, hn⟩ := h; exact ⟨n, .inl hn⟩
  · exact ⟨-1, .inr ⟨rfl, fun n h0 h1 e => h ⟨n, h0, h1, e⟩⟩⟩
end Go.Proofs.YtcleicjgeflbnaaGreatDoor
