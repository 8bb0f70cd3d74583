/- strings.Cut at one sign; slices.Index at a row of texts; rule.number at a number. Conditions: each theorem's own. -/
import Derived.Test.YtcleicjgeflbnaaGreatDoorV4
import Derived.Shelf.Strings.Search2
import Derived.Deep.DrawnRows
namespace Go.Proofs.YtcleicjgeflbnaaGreatDoor
open Go.RowKit Go.ChangeShapes Go.WideShapes Go.Deep
set_option linter.all false

theorem index74 (s : ByteArray) (c : UInt8) (w : World) : Calls Tryz.prog 74 #[.string s, .string ⟨#[c]⟩] w fun e w' => e = .returned (.int .i64 (Lib.indexByte s.data.toList c)) ∧ w' = w :=
  Any.stringslite_Index_one { Tryz.lays143 with } s c w

set_option maxRecDepth 100000 in
set_option maxHeartbeats 4000000 in
theorem cut52_some (s : ByteArray) (i : Nat) (w : World) (h : Lib.indexByte s.data.toList 61 = (i : Int)) (hs : s.size ≤ 1000000) :
    Calls Tryz.prog 52 #[.string s, .string ⟨#[61]⟩] w fun e w' => e = .returned (.tuple #[.string (s.extract 0 i), .string (s.extract (i + 1) s.size), .bool true]) ∧ ∃ q, w' = w.drewN q := by
  have hlt := (splitB_some 61 s i h).2
  have h1 := index74 s 61 w
  rw [h] at h1
  have H1 := Lib.hid h1
  have hlt' : (i : Int) < (s.size : Int) := by omega
  have hs' : (s.size : Int) ≤ 1000000 := by omega
  have hw : wrap64 ((i : Int) + 1) = ((i + 1 : Nat) : Int) := by unfold wrap64; omega
  clear h1 h
  go_enter Tryz.func52, Tryz.ntmps52
  go_wp2_with (go_at_call 74; ((with_reducible refine H1.out.mono ?_); rintro e w1 ⟨rfl, rfl⟩))
  go_quiet (fail)
  go_wp2_with fail
  go_ret3
  exact ⟨rfl, _, rfl⟩
theorem cut_some (s : ByteArray) (i : Nat) (w : World) (h : Lib.indexByte s.data.toList 61 = (i : Int)) (hs : s.size ≤ 1000000) :
    Calls Tryz.prog 18 #[.string s, .string ⟨#[61]⟩] w fun e w' => e = .returned (.tuple #[.string (s.extract 0 i), .string (s.extract (i + 1) s.size), .bool true]) ∧ ∃ q, w' = w.drewN q := by
  have H1 := Lib.hid (cut52_some s i w h hs)
  clear h
  go_enter Tryz.func18, Tryz.ntmps18
  go_wp2_with (go_at_call 52; ((with_reducible refine H1.out.mono ?_); rintro e w1 ⟨rfl, q, rfl⟩))
  go_ret3
  exact ⟨rfl, _, rfl⟩

/-- Where a text stands first in a row; -1: nowhere. -/
def idxL : List (List UInt8) → List UInt8 → Int
  | [], _ => -1
  | x :: r, s => if x = s then 0 else if idxL r s < 0 then -1 else idxL r s + 1
theorem idx_hit (s : List UInt8) : ∀ (xs : List (List UInt8)) (k : Nat), (∀ j, j < k → xs[j]? ≠ some s) → xs[k]? = some s → idxL xs s = (k : Int)
  | [], k, _, h => by simp at h
  | x :: r, 0, _, h => by simp at h; rw [idxL, if_pos h]; rfl
  | x :: r, k + 1, h1, h => by
    have hx : ¬ x = s := fun e => h1 0 (by omega) (by simp [e])
    have ih := idx_hit s r k (fun j hj => by have := h1 (j + 1) (by omega); simpa using this) (by simpa using h)
    rw [idxL, if_neg hx, ih, if_neg (by omega)]
    omega
theorem idx_miss (s : List UInt8) : ∀ (xs : List (List UInt8)), (∀ j : Nat, xs[j]? ≠ some s) → idxL xs s = -1
  | [], _ => rfl
  | x :: r, h1 => by
    have hx : ¬ x = s := fun e => h1 0 (by simp [e])
    have ih := idx_miss s r (fun j => by have := h1 (j + 1); simpa using this)
    rw [idxL, if_neg hx, ih, if_pos (by omega)]

set_option maxRecDepth 100000 in
set_option maxHeartbeats 4000000 in
theorem index_any (xs : List (List UInt8)) (s : ByteArray) (bk c : Nat) (w : World) (hc : ∀ (j : Nat) x, xs[j]? = some x → w.cell? ⟨bk, j, none⟩ = some (.string (toB x))) (hn : xs.length ≤ 1000) :
    Calls Tryz.prog 38 #[.slice (some ⟨bk, 0, none⟩) xs.length c, .string s] w fun e w' => e = .returned (.int .i64 (idxL xs s.data.toList)) ∧ w' = w := by
  have HC := Lib.hid hc
  obtain ⟨n, hnx⟩ : ∃ n, n = xs.length := ⟨_, rfl⟩
  rw [← hnx] at hn ⊢
  have HN := Lib.hid hnx
  clear hc hnx
  go_enter Tryz.func38, Tryz.ntmps38
  go_wp2_with fail
  go_loopw [8] (fun v wr => ∃ k : Nat, k ≤ n ∧ v = .int .i64 (k : Nat) ∧ wr = w ∧ Hid (∀ j, j < k → xs[j]? ≠ some s.data.toList)) (fun v _ => n - (intOf v).toNat)
  case atStart => exact ⟨0, Nat.zero_le _, rfl, rfl, fun j hj => absurd hj (by omega)⟩
  case round =>
    obtain ⟨k, hk, rfl, rfl, HF⟩ := hrel
    by_cases hlt : k < n
    · have hlt' : (k : Int) < (n : Int) := by omega
      obtain ⟨x, hx⟩ : ∃ x, xs[k]? = some x := ⟨xs[k]'(by have := HN.out; omega), List.getElem?_eq_getElem _⟩
      have hcx := HC.out k x hx
      have HX := Lib.hid hx
      by_cases he : s.data.toList = x
      · have b1 : (s.toList == (toB x).toList) = true := by rw [← he, toB_of]; simp
        have hr := idx_hit s.data.toList xs k HF.out (by rw [HX.out, he])
        have HR := Lib.hid hr
        clear hr hx he
        go_wp2_with fail
        go_ret
        exact ⟨by rw [HR.out]; rfl, rfl⟩
      · have b1 : (s.toList == (toB x).toList) = false := by
          rw [beq_eq_false_iff_ne]
          intro e
          rw [ByteArray.toList_eq, ByteArray.toList_eq] at e
          exact he e
        have HE := Lib.hid he
        clear hx he
        go_wp2_with fail
        go_roundw
        case measure => simp [intOf]; omega
        case rel =>
          refine ⟨k + 1, by omega, by go_num, trivial, fun j hj e => ?_⟩
          by_cases hjk : j < k
          · exact HF.out j hjk e
          · obtain rfl : j = k := by omega
            rw [HX.out] at e
            exact HE.out (Option.some.inj e).symm
    · obtain rfl : n = k := by omega
      have hr := idx_miss s.data.toList xs (fun j e => by
        by_cases hjk : j < n
        · exact HF.out j hjk e
        · rw [List.getElem?_eq_none (by have := HN.out; omega)] at e; cases e)
      have HR := Lib.hid hr
      clear hr
      go_wp2_with fail
      go_ret
      exact ⟨by rw [HR.out]; rfl, rfl⟩

set_option maxRecDepth 100000 in
set_option maxHeartbeats 4000000 in
theorem number_ok (s : ByteArray) (v : Int) (w : World) (hs : s.size ≤ 1000000) (h : Lib.atoiAll s.data.toList = .ok v) : Calls Tryz.prog 40 #[.string s] w fun e w' => e = .returned (.int .i64 v) ∧ Below w.heap.size w w' := by
  have H1 := Lib.hid (Tryz.strconv_Atoi_ok s (by omega) v h w)
  clear h
  go_enter Tryz.func40, Tryz.ntmps40
  go_wp2_with (go_at_call 69; ((with_reducible refine H1.out.mono ?_); rintro e w1 ⟨rfl, hw⟩
                               have HW := Lib.hid hw
                               clear hw))
  go_ret
  refine ⟨rfl, ?_⟩
  rcases HW.out with rfl | ⟨t, rfl⟩
  · exact Below.refl _ _
  · exact Go.Joins.below_bytesWorld _ _ _ _ (Nat.le_refl _)
end Go.Proofs.YtcleicjgeflbnaaGreatDoor
