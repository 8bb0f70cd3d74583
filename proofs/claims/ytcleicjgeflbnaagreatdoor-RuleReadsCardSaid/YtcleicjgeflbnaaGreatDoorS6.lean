/- The tables that the texts read; Fields at the two lists; Itoa; rule.dayText. Conditions: each theorem's own. -/
import Derived.Test.YtcleicjgeflbnaaGreatDoorS5
import Derived.Lib.SmallJoins
import Derived.Lib.AppendIntMem
import Derived.Deep.RegionWith
namespace Go.Proofs.YtcleicjgeflbnaaGreatDoor
open Go.RowKit
set_option linter.all false

/-- What the program's text lays into the tables that are read here. -/
structure Laid (w : World) : Prop where
  sp : Lib.TabIs Tryz.prog w "strings.asciiSpace" .u8 Lib.asciiSpaceTab
  p10 : Lib.TabIs Tryz.prog w "internal/strconv.uint64pow10" .u64 Lib.pow10Tab
theorem Laid.later {w w' : World} (h : Laid w) (hb : Below w.heap.size w w') : Laid w' := ⟨Lib.tabBelow_of_tabIs h.sp w' hb, Lib.tabBelow_of_tabIs h.p10 w' hb⟩

abbrev daysS : ByteArray := ⟨#[77, 79, 32, 84, 85, 32, 87, 69, 32, 84, 72, 32, 70, 82, 32, 83, 65, 32, 83, 85]⟩
abbrev freqsS : ByteArray := ⟨#[68, 65, 73, 76, 89, 32, 87, 69, 69, 75, 76, 89, 32, 77, 79, 78, 84, 72, 76, 89, 32, 89, 69, 65, 82, 76, 89]⟩
theorem fields_days : Lib.fields daysS.data.toList = daysL := by decide +kernel
theorem fields_freqs : Lib.fields freqsS.data.toList = freqsL := by decide +kernel
abbrev daysC : Array Value := (daysL.map fun l => Value.string ⟨l.toArray⟩).toArray
abbrev freqsC : Array Value := (freqsL.map fun l => Value.string ⟨l.toArray⟩).toArray
theorem daysF (W : World) (hL : Laid W) : Calls Tryz.prog 25 #[.string daysS] W fun e w' => e = .returned (.slice (some ⟨W.heap.size, 0, none⟩) 7 7) ∧ w' = W.alloc (.cells daysC 9) := by
  have ha : ∀ b ∈ daysS.data.toList, b.toNat < 128 := by decide +kernel
  have h := Tryz.strings_Fields daysS W (by decide) (fun j b hj => ha b (List.mem_of_getElem? hj)) hL.sp
  rw [fields_days] at h
  exact h
theorem freqsF (W : World) (hL : Laid W) : Calls Tryz.prog 25 #[.string freqsS] W fun e w' => e = .returned (.slice (some ⟨W.heap.size, 0, none⟩) 4 4) ∧ w' = W.alloc (.cells freqsC 9) := by
  have ha : ∀ b ∈ freqsS.data.toList, b.toNat < 128 := by decide +kernel
  have h := Tryz.strings_Fields freqsS W (by decide) (fun j b hj => ha b (List.mem_of_getElem? hj)) hL.sp
  rw [fields_freqs] at h
  exact h
theorem daysC_at (k : Nat) (h : k < 7) : daysC[k]? = some (.string (toB (dayT k))) := by
  have hk : k = 0 ∨ k = 1 ∨ k = 2 ∨ k = 3 ∨ k = 4 ∨ k = 5 ∨ k = 6 := by omega
  rcases hk with rfl | rfl | rfl | rfl | rfl | rfl | rfl <;> rfl
theorem freqsC_at (k : Nat) (h : k < 4) : freqsC[k]? = some (.string (toB (freqT ((k + 1 : Nat) : Int)))) := by
  have hk : k = 0 ∨ k = 1 ∨ k = 2 ∨ k = 3 := by omega
  rcases hk with rfl | rfl | rfl | rfl <;> rfl
theorem itoa_any (n : Int) (W : World) (hL : Laid W) (h0 : -9223372036854775808 ≤ n) (h1 : n ≤ 9223372036854775807) :
    Calls Tryz.prog 26 #[.int .i64 n] W fun e w' => e = .returned (.string (toB (Lib.itoa n))) ∧ Below W.heap.size W w' :=
  (Tryz.strconv_Itoa n h0 h1 W hL.p10).mono fun e w' ⟨he, k, os, hw⟩ => ⟨he, by
    rw [hw]
    have hd : Below W.heap.size W (W.drewN k) := ⟨rfl, rfl, rfl, Nat.le_refl _, fun _ _ => rfl⟩
    exact hd.trans ⟨rfl, rfl, rfl, by simp [Go.Sort.grow], fun j hj => by simp [Go.Sort.grow, Array.getElem?_append, hj]⟩⟩

set_option maxRecDepth 100000 in
set_option maxHeartbeats 4000000 in
theorem dayText_any (d : DayND) (w : World) (hL : Laid w) (h0 : 0 ≤ d.day) (h1 : d.day ≤ 6) (h2 : -9223372036854775808 ≤ d.n) (h3 : d.n ≤ 9223372036854775807) :
    Calls Tryz.prog 30 #[.agg #[.int .i64 d.n, .int .i64 d.day]] w fun e w' => e = .returned (.string (toB (dayNT d))) ∧ Below w.heap.size w w' := by
  obtain ⟨n, y⟩ := d
  simp only at h0 h1 h2 h3
  obtain ⟨k, rfl⟩ : ∃ k : Nat, y = (k : Int) := ⟨y.toNat, by omega⟩
  have hk : k < 7 := by omega
  have hki : (k : Int) < 7 := by omega
  have HL := Lib.hid hL
  have FD := Lib.hid (fun W (hb : Below w.heap.size w W) => daysF W (HL.out.later hb))
  have IT := Lib.hid (fun W (hb : Below w.heap.size w W) => itoa_any n W (HL.out.later hb) h2 h3)
  have HB := Lib.hid (show Below w.heap.size w (w.alloc (.cells #[.int .i64 n, .int .i64 (k : Nat)] 36)) from belowA _ (Below.refl _ _))
  have hdc := daysC_at k hk
  have hz1 : (toB (Lib.itoa n)).size ≤ 21 := by rw [toB_size]; exact Lib.itoa_length_le n h2 h3
  have hz2 : (toB (dayT (k : Nat))).size ≤ 2 := by
    rw [toB_size]
    have hkk : k = 0 ∨ k = 1 ∨ k = 2 ∨ k = 3 ∨ k = 4 ∨ k = 5 ∨ k = 6 := by omega
    rcases hkk with rfl | rfl | rfl | rfl | rfl | rfl | rfl <;> decide
  clear hL h0 h1 h2 h3
  have HB2 := Lib.hid (show Below w.heap.size w ((w.alloc (.cells #[.int .i64 n, .int .i64 (k : Nat)] 36)).alloc (.cells daysC 9)) from belowA _ HB.out)
  have hn : ((n != 0) = true ∧ Hid (n ≠ 0)) ∨ ((n != 0) = false ∧ Hid (n = 0)) := by
    by_cases h : n = 0
    · exact .inr ⟨by simp [h], h⟩
    · exact .inl ⟨by simp [h], h⟩
  rcases hn with ⟨n1, N⟩ | ⟨n1, N⟩
  · have hr : dayNT ⟨n, k⟩ = Lib.itoa n ++ dayT k := by unfold dayNT; rw [if_neg N.out]
    have HR := Lib.hid hr
    clear hr
    go_enter Tryz.func30, Tryz.ntmps30
    go_wp2_with fail
    go_region_with (go_at_call 25; ((with_reducible refine (FD.out _ ?_).mono ?_); (first | exact HB.out | exact HB.out.drew); rintro e w1 ⟨rfl, rfl⟩))
    all_goals
      go_wp2_with (go_at_call 26; ((with_reducible refine (IT.out _ ?_).mono ?_); (first | exact HB2.out | exact HB2.out.drew); rintro e w1 ⟨rfl, hb⟩; have H1 := Lib.hid hb; clear hb))
      go_ret
      refine ⟨by rw [HR.out, ← toB_append]; rfl, ?_⟩
      first | exact HB2.out.drew.trans (H1.out.mono HB2.out.size) | exact HB2.out.trans (H1.out.mono HB2.out.size)
  · have hr : dayNT ⟨n, k⟩ = dayT k := by unfold dayNT; rw [if_pos N.out]
    have HR := Lib.hid hr
    clear hr
    go_enter Tryz.func30, Tryz.ntmps30
    go_wp2_with fail
    go_region_with (go_at_call 25; ((with_reducible refine (FD.out _ ?_).mono ?_); (first | exact HB.out | exact HB.out.drew); rintro e w1 ⟨rfl, rfl⟩))
    all_goals
      go_wp2_with fail
      go_ret
      refine ⟨by rw [HR.out]; rfl, ?_⟩
      first | exact HB2.out.drew | exact HB2.out
end Go.Proofs.YtcleicjgeflbnaaGreatDoor
