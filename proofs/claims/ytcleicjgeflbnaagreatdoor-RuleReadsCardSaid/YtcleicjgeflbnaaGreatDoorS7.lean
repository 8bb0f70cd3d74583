/- rule.join at numbers and at days: the row of parts with a part more, unless there is nothing to tell. Conditions: each theorem's own. -/
import Derived.Test.YtcleicjgeflbnaaGreatDoorS6
namespace Go.Proofs.YtcleicjgeflbnaaGreatDoor
open Go.RowKit Go.ChangeShapes Go.WideShapes Go.Deep
set_option linter.all false

def strs (l : List (List UInt8)) : List Value := l.map fun x => Value.string (toB x)
theorem strs_append (a b : List (List UInt8)) : strs (a ++ b) = strs a ++ strs b := by simp [strs]
theorem wfi_lo {x : Int} (h : wfi .i64 x) : -9223372036854775808 ≤ x := h.1
theorem wfi_hi {x : Int} (h : wfi .i64 x) : x ≤ 9223372036854775807 := h.2
theorem own_later {w w' : World} {B : Nat} {v : Value} {n : Nat} {xs : List Value} (h : w.ownsRow B 9 1 v n xs) (hb : Below w.heap.size w w') : w'.ownsRow B 9 1 v n xs := by
  obtain ⟨h1, h2 | ⟨g, cap, cur, e, a1, a2, a3⟩⟩ := h
  · exact ⟨h1, .inl h2⟩
  · exact ⟨h1, .inr ⟨g, cap, cur, e, a1, (hb.block g (Array.getElem?_eq_some_iff.1 a2).1).trans a2, a3⟩⟩
theorem join_le (l : List (List UInt8)) (m : Nat) (h : ∀ x ∈ l, x.length ≤ m) : (Lib.join l [44]).length ≤ l.length * (m + 1) := by
  cases l with
  | nil => simp [Lib.join_nil]
  | cons x r =>
    rw [Lib.join_length]
    have : ∀ l : List (List UInt8), (∀ x ∈ l, x.length ≤ m) → Lib.lens l ≤ l.length * m := by
      intro l
      induction l with
      | nil => intro _; simp [Lib.lens]
      | cons y l ih =>
        intro hh
        have h1 := hh y (by simp)
        have h2 := ih fun z hz => hh z (by simp [hz])
        simp only [Lib.lens, List.map_cons, List.sum_cons, List.length_cons, Nat.add_mul, Nat.one_mul] at h2 ⊢
        omega
    have h1 := this _ h
    simp only [List.length_cons, List.length_nil, Nat.zero_add, Nat.one_mul, Nat.mul_add, Nat.add_mul, Nat.mul_one] at h1 ⊢
    omega
theorem joinmap {α : Type} (f : α → List UInt8) (l : List α) : Lib.join ((l.map fun x => toB (f x)).map (·.data.toList)) (⟨#[44]⟩ : ByteArray).data.toList = Lib.join (l.map f) [44] := by
  rw [List.map_map]; rfl

set_option maxRecDepth 100000 in
set_option maxHeartbeats 8000000 in
theorem joinI_any (B : Nat) (vo : Value) (xs : List (List UInt8)) (nm : List UInt8) (o : Option Addr) (n c : Nat) (ys : List Int) (w : World) (hL : Laid w) (hB : B ≤ w.heap.size)
    (ho : w.ownsRow B 9 1 vo xs.length (strs xs)) (hx9 : xs.length ≤ 100) (hnm : nm.length ≤ 20) (h : Row w 1 (rI .i64) (.slice o n c) ys) (hn : n ≤ 10000) (hlen : ∀ x ∈ ys, (Lib.itoa x).length ≤ 30) :
    Calls Tryz.prog 28 #[vo, .string (toB nm), .slice o n c, .func (.func 26) #[] #[]] w fun e w' => ∃ v', e = .returned v' ∧ w'.ownsRow B 9 1 v' (xs ++ rowP nm Lib.itoa ys).length (strs (xs ++ rowP nm Lib.itoa ys)) ∧ w.grownBy w' vo.ownBlock := by
  obtain ⟨i0, hi, hz0, hz1, hz2⟩ := info_parts info9
  have S := Lib.hid h
  have L := Lib.hid h.len
  have HL := Lib.hid hL
  have HO := Lib.hid ho
  have HLEN := Lib.hid hlen
  by_cases hn0 : n = 0
  · have b0 : ((n : Int) == 0) = true := by rw [hn0]; rfl
    have hy : ys = [] := List.eq_nil_of_length_eq_zero (by rw [h.len, hn0])
    have HY := Lib.hid hy
    clear hL ho h hlen hy hn0
    go_enter Tryz.func28, Tryz.ntmps28
    go_wp2_with fail
    go_ret
    rw [HY.out, rowP_nil, List.append_nil]
    exact ⟨_, rfl, HO.out, World.grownBy.refl _ _⟩
  have b0 : ((n : Int) == 0) = false := by rw [beq_eq_false_iff_ne]; omega
  have hnp : 0 < n := by omega
  clear hL ho h hn0
  go_enter Tryz.func28, Tryz.ntmps28
  go_wp2_with fail
  go_loopw [9, 18] (fun v i wr => ∃ k : Nat, k ≤ n ∧ i = .int .i64 (k : Nat) ∧ Hid (wr.ownsRow w.heap.size 9 1 v k (strs ((ys.map Lib.itoa).take k))) ∧ Hid (Below w.heap.size w wr)) (fun _ i _ => n - (intOf i).toNat)
  case atStart => exact ⟨0, Nat.zero_le _, rfl, World.ownsRow_nil _ _ _ _, Below.refl _ _⟩
  case round =>
    obtain ⟨k, hk, rfl, HP, HB⟩ := hrel
    by_cases hlt : k < n
    · have hlt' : (k : Int) < (n : Int) := by omega
      have hk10 : k ≤ 10000 := by omega
      obtain ⟨x, a1, cs1, hx, rfl, q1, ⟨rfl, hwx⟩, q0, _⟩ := S.out.elem HB.out k hlt
      have e0 := q0 (by decide)
      simp only [List.getElem?_cons_zero, Nat.mul_one] at e0
      have T := Lib.hid (fun (W : World) (hb : Below w.heap.size w W) => itoa_any x W (HL.out.later hb) (wfi_lo hwx) (wfi_hi hwx))
      have HX := Lib.hid hx
      clear q0 q1 hx hlen
      go_wp2_with (first
        | (go_at_call 26; ((with_reducible refine (T.out _ ?_).mono ?_); (exact HB.out); rintro e w1 ⟨rfl, hb⟩
                           have H1 := Lib.hid (Below.trans HB.out (hb.mono (Below.size HB.out)))
                           have P1 := Lib.hid (own_later HP.out hb)
                           clear hb))
        | (at_builtin; refine wpList_append_own (w1.alloc (.cells #[.string (toB (Lib.itoa x))] 9)) rfl (.tmp 22) (.tmp 26) 49 rfl w.heap.size 9 i0 (.string ⟨#[]⟩) 1 16 Tryz.underlying49 hi hz0 hz1 hz2 rfl (by decide) u9 k (strs ((ys.map Lib.itoa).take k)) rfl (P1.out.alloc _) ⟨w1.heap.size, 0, none⟩ 1 1 [.string (toB (Lib.itoa x))] rfl rfl ?c1 ?c2 ?c3 ?c4 ?c5 ?_))
      case c1 =>
        intro j u hj
        match j, hj with
        | 0, hj => simp at hj; subst hj; simp [Addr.add]
        | (_ + 1), hj => simp at hj
      case c2 => intro u hu; simp at hu; subst hu; rfl
      case c3 => unfold maxLen; omega
      case c4 => omega
      case c5 => have := H1.out.size; simp; omega
      intro v' w2 hown hgrow _
      have hB2 : Below w.heap.size w w2 := (belowA _ H1.out).grown hgrow (by have := H1.out.size; simp; omega) (fun j hj => (P1.out.lt j hj).1)
      have HB2 := Lib.hid hB2
      have HO2 := Lib.hid (show w2.ownsRow w.heap.size 9 1 v' (k + 1) (strs ((ys.map Lib.itoa).take (k + 1))) by
        rw [List.take_add_one, List.getElem?_map, HX.out, strs_append]
        exact hown)
      clear hown hgrow hB2
      go_wp2_with fail
      go_roundw
      case measure => simp [intOf]; omega
      case rel => exact ⟨k + 1, by omega, by go_num, HO2.out, HB2.out⟩
    · obtain rfl : n = k := by omega
      have htk : (ys.map Lib.itoa).take n = ys.map Lib.itoa := List.take_of_length_le (by have := L.out; rw [List.length_map]; omega)
      have hown := HP.out
      rw [htk] at hown
      have hne : ys ≠ [] := by intro e; have := L.out; rw [e] at this; simp at this; omega
      obtain ⟨hl, h0 | ⟨g, cap, cur, rfl, hg1, hg2, hg3, hg4, hg5, hg6⟩⟩ := hown
      · exact absurd h0.2 (by omega)
      have hjl := join_le (ys.map Lib.itoa) 30 (fun y hy => by obtain ⟨x, hx, rfl⟩ := List.mem_map.1 hy; exact HLEN.out x hx)
      rw [List.length_map, L.out] at hjl
      have hjb : (Lib.join (ys.map Lib.itoa) [44]).length ≤ 310000 := Nat.le_trans hjl (by omega)
      have J := Lib.hid (Tryz.strings_Join g 0 cap (ys.map fun x => toB (Lib.itoa x)) ⟨#[44]⟩ wr (fun j y hy => by
          rw [Nat.zero_add, cell_of_row _ _ _ _ _ _ hg2]
          have hy' : (strs (ys.map Lib.itoa))[j]? = some (.string y) := by
            rw [List.getElem?_map] at hy
            unfold strs
            rw [List.getElem?_map, List.getElem?_map]
            cases hq : ys[j]? with
            | none => rw [hq] at hy; cases hy
            | some z => rw [hq] at hy; cases hy; rfl
          have hj : j < n := by have := (List.getElem?_eq_some_iff.1 hy').1; simp [strs] at this; have := L.out; omega
          rw [← hg6, List.getElem?_take_of_lt (by omega), Array.getElem?_toList] at hy'
          exact hy') (by have := (Array.getElem?_eq_some_iff.1 hg2).1; omega) (by rw [List.length_map, L.out]; omega) (by rw [List.length_map, L.out]; exact hg3)
        (by rw [joinmap]; exact Nat.le_trans hjb (by omega)))
      have J := Lib.hid (show Calls Tryz.prog 31 #[.slice (some ⟨g, 0, none⟩) n cap, .string ⟨#[44]⟩] wr (fun e w' => e = .returned (.string (toB (Lib.join (ys.map Lib.itoa) [44]))) ∧ Below wr.heap.size wr w') by
        have j := J.out
        rw [joinmap, List.length_map, L.out] at j
        exact j)
      have hs1 : (toB nm).size ≤ 20 := by rw [toB_size]; exact hnm
      have hs2 : (toB (Lib.join (ys.map Lib.itoa) [44])).size ≤ 310000 := by rw [toB_size]; exact hjb
      obtain ⟨JT, hJT⟩ : ∃ JT, JT = Lib.join (ys.map Lib.itoa) [44] := ⟨_, rfl⟩
      rw [← hJT] at J hs2
      have HJT := Lib.hid hJT
      have HNE := Lib.hid hne
      have HO2 := Lib.hid (fun W (hb : Below w.heap.size w W) => own_later HO.out hb)
      clear htk hl hg1 hg2 hg3 hg4 hg5 hg6 hjl hjb hJT hlen hne
      go_wp2_with (first
        | (go_at_call 31; ((with_reducible refine (J.out).mono ?_); rintro e w1 ⟨rfl, hb⟩
                           have H1 := Lib.hid (Below.trans HB.out (hb.mono HB.out.size))
                           clear hb))
        | (at_builtin; refine wpList_append_own (w1.alloc (.cells #[.string (toB nm ++ toB JT)] 9)) rfl (.tmp 29) (.tmp 34) 49 rfl B 9 i0 (.string ⟨#[]⟩) 1 16 Tryz.underlying49 hi hz0 hz1 hz2 rfl (by decide) vo xs.length (strs xs) rfl ((HO2.out _ H1.out).alloc _) ⟨w1.heap.size, 0, none⟩ 1 1 [.string (toB nm ++ toB JT)] rfl rfl ?d1 ?d2 ?d3 ?d4 ?d5 ?_))
      case d1 =>
        intro j u hj
        match j, hj with
        | 0, hj => simp at hj; subst hj; simp [Addr.add]
        | (_ + 1), hj => simp at hj
      case d2 => intro u hu; simp at hu; subst hu; rfl
      case d3 => unfold maxLen; omega
      case d4 => omega
      case d5 => have := H1.out.size; simp; omega
      intro v' w2 hown hgrow _
      have HW := Lib.hid (And.intro hown hgrow)
      clear hown hgrow
      go_wp2_with fail
      go_ret
      have hrp : rowP nm Lib.itoa ys = [nm ++ Lib.join (ys.map Lib.itoa) [44]] := by
        unfold rowP
        rw [if_neg (by intro e; exact HNE.out (List.eq_nil_of_length_eq_zero e))]
      refine ⟨_, rfl, ?_, ?_⟩
      · rw [hrp, ← HJT.out, List.length_append, strs_append]
        have := HW.out.1
        rw [toB_append] at this
        exact this
      · refine World.grownBy.trans ⟨?_, ?_, ?_, ?_, fun j hj _ => ?_⟩ HW.out.2
        · exact (belowA _ H1.out).os
        · exact (belowA _ H1.out).tape
        · exact (belowA _ H1.out).output
        · exact (belowA _ H1.out).size
        · exact (belowA _ H1.out).block j hj

set_option maxRecDepth 100000 in
set_option maxHeartbeats 8000000 in
theorem joinD_any (B : Nat) (vo : Value) (xs : List (List UInt8)) (nm : List UInt8) (o : Option Addr) (n c : Nat) (ys : List DayND) (w : World) (hL : Laid w) (hB : B ≤ w.heap.size)
    (ho : w.ownsRow B 9 1 vo xs.length (strs xs)) (hx9 : xs.length ≤ 100) (hnm : nm.length ≤ 20) (h : Row w 2 rDayN (.slice o n c) ys) (hn : n ≤ 10000) (hok : ∀ x ∈ ys, 0 ≤ x.day ∧ x.day ≤ 6) (hlen : ∀ x ∈ ys, (dayNT x).length ≤ 30) :
    Calls Tryz.prog 29 #[vo, .string (toB nm), .slice o n c, .func (.func 30) #[] #[]] w fun e w' => ∃ v', e = .returned v' ∧ w'.ownsRow B 9 1 v' (xs ++ rowP nm dayNT ys).length (strs (xs ++ rowP nm dayNT ys)) ∧ w.grownBy w' vo.ownBlock := by
  obtain ⟨i0, hi, hz0, hz1, hz2⟩ := info_parts info9
  have S := Lib.hid h
  have L := Lib.hid h.len
  have HL := Lib.hid hL
  have HO := Lib.hid ho
  have HLEN := Lib.hid hlen
  by_cases hn0 : n = 0
  · have b0 : ((n : Int) == 0) = true := by rw [hn0]; rfl
    have hy : ys = [] := List.eq_nil_of_length_eq_zero (by rw [h.len, hn0])
    have HY := Lib.hid hy
    clear hL ho h hlen hy hn0
    go_enter Tryz.func29, Tryz.ntmps29
    go_wp2_with fail
    go_ret
    rw [HY.out, rowP_nil, List.append_nil]
    exact ⟨_, rfl, HO.out, World.grownBy.refl _ _⟩
  have b0 : ((n : Int) == 0) = false := by rw [beq_eq_false_iff_ne]; omega
  have hnp : 0 < n := by omega
  clear hL ho h hn0
  go_enter Tryz.func29, Tryz.ntmps29
  go_wp2_with fail
  go_loopw [9, 18] (fun v i wr => ∃ k : Nat, k ≤ n ∧ i = .int .i64 (k : Nat) ∧ Hid (wr.ownsRow w.heap.size 9 1 v k (strs ((ys.map dayNT).take k))) ∧ Hid (Below w.heap.size w wr)) (fun _ i _ => n - (intOf i).toNat)
  case atStart => exact ⟨0, Nat.zero_le _, rfl, World.ownsRow_nil _ _ _ _, Below.refl _ _⟩
  case round =>
    obtain ⟨k, hk, rfl, HP, HB⟩ := hrel
    by_cases hlt : k < n
    · have hlt' : (k : Int) < (n : Int) := by omega
      have hk10 : k ≤ 10000 := by omega
      obtain ⟨x, a1, cs1, hx, rfl, q1, ⟨rfl, hwx, hwy⟩, q0, q0'⟩ := S.out.elem HB.out k hlt
      have e0 := q0 (by decide)
      have e1 := q0' 1 (by decide) (by decide)
      simp only [List.getElem?_cons_zero, List.getElem?_cons_succ] at e0 e1
      have hdx := hok x (List.mem_of_getElem? hx)
      have T := Lib.hid (fun (W : World) (hb : Below w.heap.size w W) => dayText_any x W (HL.out.later hb) hdx.1 hdx.2 (wfi_lo hwx) (wfi_hi hwx))
      clear hdx q0'
      have HX := Lib.hid hx
      clear q0 q1 hx hlen
      go_wp2_with (first
        | (go_at_call 30; ((with_reducible refine (T.out _ ?_).mono ?_); (exact (belowA _ HB.out)); rintro e w1 ⟨rfl, hb⟩
                           have H1 := Lib.hid (Below.trans (belowA _ HB.out) (hb.mono (Below.size (belowA _ HB.out))))
                           have P1 := Lib.hid (own_later HP.out ((belowA _ (Below.refl _ _)).trans (hb.mono (by simp))))
                           clear hb))
        | (at_builtin; refine wpList_append_own (w1.alloc (.cells #[.string (toB (dayNT x))] 9)) rfl (.tmp 22) (.tmp 26) 49 rfl w.heap.size 9 i0 (.string ⟨#[]⟩) 1 16 Tryz.underlying49 hi hz0 hz1 hz2 rfl (by decide) u9 k (strs ((ys.map dayNT).take k)) rfl (P1.out.alloc _) ⟨w1.heap.size, 0, none⟩ 1 1 [.string (toB (dayNT x))] rfl rfl ?c1 ?c2 ?c3 ?c4 ?c5 ?_))
      case c1 =>
        intro j u hj
        match j, hj with
        | 0, hj => simp at hj; subst hj; simp [Addr.add]
        | (_ + 1), hj => simp at hj
      case c2 => intro u hu; simp at hu; subst hu; rfl
      case c3 => unfold maxLen; omega
      case c4 => omega
      case c5 => have := H1.out.size; simp; omega
      intro v' w2 hown hgrow _
      have hB2 : Below w.heap.size w w2 := (belowA _ H1.out).grown hgrow (by have := H1.out.size; simp; omega) (fun j hj => (P1.out.lt j hj).1)
      have HB2 := Lib.hid hB2
      have HO2 := Lib.hid (show w2.ownsRow w.heap.size 9 1 v' (k + 1) (strs ((ys.map dayNT).take (k + 1))) by
        rw [List.take_add_one, List.getElem?_map, HX.out, strs_append]
        exact hown)
      clear hown hgrow hB2
      go_wp2_with fail
      go_roundw
      case measure => simp [intOf]; omega
      case rel => exact ⟨k + 1, by omega, by go_num, HO2.out, HB2.out⟩
    · obtain rfl : n = k := by omega
      have htk : (ys.map dayNT).take n = ys.map dayNT := List.take_of_length_le (by have := L.out; rw [List.length_map]; omega)
      have hown := HP.out
      rw [htk] at hown
      have hne : ys ≠ [] := by intro e; have := L.out; rw [e] at this; simp at this; omega
      obtain ⟨hl, h0 | ⟨g, cap, cur, rfl, hg1, hg2, hg3, hg4, hg5, hg6⟩⟩ := hown
      · exact absurd h0.2 (by omega)
      have hjl := join_le (ys.map dayNT) 30 (fun y hy => by obtain ⟨x, hx, rfl⟩ := List.mem_map.1 hy; exact HLEN.out x hx)
      rw [List.length_map, L.out] at hjl
      have hjb : (Lib.join (ys.map dayNT) [44]).length ≤ 310000 := Nat.le_trans hjl (by omega)
      have J := Lib.hid (Tryz.strings_Join g 0 cap (ys.map fun x => toB (dayNT x)) ⟨#[44]⟩ wr (fun j y hy => by
          rw [Nat.zero_add, cell_of_row _ _ _ _ _ _ hg2]
          have hy' : (strs (ys.map dayNT))[j]? = some (.string y) := by
            rw [List.getElem?_map] at hy
            unfold strs
            rw [List.getElem?_map, List.getElem?_map]
            cases hq : ys[j]? with
            | none => rw [hq] at hy; cases hy
            | some z => rw [hq] at hy; cases hy; rfl
          have hj : j < n := by have := (List.getElem?_eq_some_iff.1 hy').1; simp [strs] at this; have := L.out; omega
          rw [← hg6, List.getElem?_take_of_lt (by omega), Array.getElem?_toList] at hy'
          exact hy') (by have := (Array.getElem?_eq_some_iff.1 hg2).1; omega) (by rw [List.length_map, L.out]; omega) (by rw [List.length_map, L.out]; exact hg3)
        (by rw [joinmap]; exact Nat.le_trans hjb (by omega)))
      have J := Lib.hid (show Calls Tryz.prog 31 #[.slice (some ⟨g, 0, none⟩) n cap, .string ⟨#[44]⟩] wr (fun e w' => e = .returned (.string (toB (Lib.join (ys.map dayNT) [44]))) ∧ Below wr.heap.size wr w') by
        have j := J.out
        rw [joinmap, List.length_map, L.out] at j
        exact j)
      have hs1 : (toB nm).size ≤ 20 := by rw [toB_size]; exact hnm
      have hs2 : (toB (Lib.join (ys.map dayNT) [44])).size ≤ 310000 := by rw [toB_size]; exact hjb
      obtain ⟨JT, hJT⟩ : ∃ JT, JT = Lib.join (ys.map dayNT) [44] := ⟨_, rfl⟩
      rw [← hJT] at J hs2
      have HJT := Lib.hid hJT
      have HNE := Lib.hid hne
      have HO2 := Lib.hid (fun W (hb : Below w.heap.size w W) => own_later HO.out hb)
      clear htk hl hg1 hg2 hg3 hg4 hg5 hg6 hjl hjb hJT hlen hne
      go_wp2_with (first
        | (go_at_call 31; ((with_reducible refine (J.out).mono ?_); rintro e w1 ⟨rfl, hb⟩
                           have H1 := Lib.hid (Below.trans HB.out (hb.mono HB.out.size))
                           clear hb))
        | (at_builtin; refine wpList_append_own (w1.alloc (.cells #[.string (toB nm ++ toB JT)] 9)) rfl (.tmp 29) (.tmp 34) 49 rfl B 9 i0 (.string ⟨#[]⟩) 1 16 Tryz.underlying49 hi hz0 hz1 hz2 rfl (by decide) vo xs.length (strs xs) rfl ((HO2.out _ H1.out).alloc _) ⟨w1.heap.size, 0, none⟩ 1 1 [.string (toB nm ++ toB JT)] rfl rfl ?d1 ?d2 ?d3 ?d4 ?d5 ?_))
      case d1 =>
        intro j u hj
        match j, hj with
        | 0, hj => simp at hj; subst hj; simp [Addr.add]
        | (_ + 1), hj => simp at hj
      case d2 => intro u hu; simp at hu; subst hu; rfl
      case d3 => unfold maxLen; omega
      case d4 => omega
      case d5 => have := H1.out.size; simp; omega
      intro v' w2 hown hgrow _
      have HW := Lib.hid (And.intro hown hgrow)
      clear hown hgrow
      go_wp2_with fail
      go_ret
      have hrp : rowP nm dayNT ys = [nm ++ Lib.join (ys.map dayNT) [44]] := by
        unfold rowP
        rw [if_neg (by intro e; exact HNE.out (List.eq_nil_of_length_eq_zero e))]
      refine ⟨_, rfl, ?_, ?_⟩
      · rw [hrp, ← HJT.out, List.length_append, strs_append]
        have := HW.out.1
        rw [toB_append] at this
        exact this
      · refine World.grownBy.trans ⟨?_, ?_, ?_, ?_, fun j hj _ => ?_⟩ HW.out.2
        · exact (belowA _ H1.out).os
        · exact (belowA _ H1.out).tape
        · exact (belowA _ H1.out).output
        · exact (belowA _ H1.out).size
        · exact (belowA _ H1.out).block j hj
end Go.Proofs.YtcleicjgeflbnaaGreatDoor
