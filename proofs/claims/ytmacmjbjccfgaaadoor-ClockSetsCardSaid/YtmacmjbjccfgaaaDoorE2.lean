/- The walk of the law ClockSets. Conditions: the table strings.asciiSpace holds what the program's text lays. -/
import Derived.Test.YtmacmjbjccfgaaaDoorE1
namespace Go.Proofs.YtmacmjbjccfgaaaDoor
open Go.RowKit

theorem Tab.later {w w' : World} (h : Tab w) (hb : Below w.heap.size w w') : Tab w' := by
  have h0 := World.block_lt_of_cell? w _ (h 0 (by omega))
  intro c hc
  rw [hb.cell (by exact h0)]
  exact h c hc

def wdT (set : Nat) : List UInt8 := if selL set 7 = [] then [45] else Lib.join (selL set 7) [44]

theorem wdT_le : ∀ n : Nat, n < 128 → (wdT n).length ≤ 20 := by decide +kernel

theorem weekdays_any (set : Nat) (hset : set < 128) (w : World) (hT : Tab w) :
    Calls Tryd.prog 5 #[.int .i64 set] w fun e w' => e = .returned (.tuple #[.string ⟨(wdT set).toArray⟩, .bool true]) ∧ Below w.heap.size w w' :=
  weekdays_yes set hset w hT _ rfl

/-- The set without the day, and with it. -/
def sub (n k : Nat) : Nat := if n / 2 ^ k % 2 = 1 then n - 2 ^ k else n
def add (n k : Nat) : Nat := if n / 2 ^ k % 2 = 1 then n else n + 2 ^ k
theorem sub0 : ∀ n : Nat, n < 128 → bits BinOp.andNot IntKind.i64 (n : Int) 1 = (sub n 0 : Nat) := by decide +kernel
theorem add0 : ∀ n : Nat, n < 128 → bits BinOp.or IntKind.i64 (n : Int) 1 = (add n 0 : Nat) := by decide +kernel
theorem sub1 : ∀ n : Nat, n < 128 → bits BinOp.andNot IntKind.i64 (n : Int) 2 = (sub n 1 : Nat) := by decide +kernel
theorem add1 : ∀ n : Nat, n < 128 → bits BinOp.or IntKind.i64 (n : Int) 2 = (add n 1 : Nat) := by decide +kernel
theorem sub2 : ∀ n : Nat, n < 128 → bits BinOp.andNot IntKind.i64 (n : Int) 4 = (sub n 2 : Nat) := by decide +kernel
theorem add2 : ∀ n : Nat, n < 128 → bits BinOp.or IntKind.i64 (n : Int) 4 = (add n 2 : Nat) := by decide +kernel
theorem sub3 : ∀ n : Nat, n < 128 → bits BinOp.andNot IntKind.i64 (n : Int) 8 = (sub n 3 : Nat) := by decide +kernel
theorem add3 : ∀ n : Nat, n < 128 → bits BinOp.or IntKind.i64 (n : Int) 8 = (add n 3 : Nat) := by decide +kernel
theorem sub4 : ∀ n : Nat, n < 128 → bits BinOp.andNot IntKind.i64 (n : Int) 16 = (sub n 4 : Nat) := by decide +kernel
theorem add4 : ∀ n : Nat, n < 128 → bits BinOp.or IntKind.i64 (n : Int) 16 = (add n 4 : Nat) := by decide +kernel
theorem sub5 : ∀ n : Nat, n < 128 → bits BinOp.andNot IntKind.i64 (n : Int) 32 = (sub n 5 : Nat) := by decide +kernel
theorem add5 : ∀ n : Nat, n < 128 → bits BinOp.or IntKind.i64 (n : Int) 32 = (add n 5 : Nat) := by decide +kernel
theorem sub6 : ∀ n : Nat, n < 128 → bits BinOp.andNot IntKind.i64 (n : Int) 64 = (sub n 6 : Nat) := by decide +kernel
theorem add6 : ∀ n : Nat, n < 128 → bits BinOp.or IntKind.i64 (n : Int) 64 = (add n 6 : Nat) := by decide +kernel
theorem sub_lt : ∀ n : Nat, n < 128 → ∀ k : Nat, k < 7 → sub n k < 128 ∧ add n k < 128 ∧ (if wdT (sub n k) = [45] then (wdT (add n k)).length = 2 else (wdT (add n k)).length = (wdT (sub n k)).length + 3) := by decide +kernel

theorem toList_mk (l : List UInt8) : (⟨l.toArray⟩ : ByteArray).toList = l := by rw [ByteArray.toList_eq]

set_option maxHeartbeats 8000000 in
theorem sets_walk (a b : Int) (w : World) (hT : Tab w) (ha : (Lit.int .u8 a).wf = true) (hb : (Lit.int .u8 b).wf = true) :
    Calls Tryd.prog 3 #[.int .u8 a, .int .u8 b] w fun e w' => e = .returned (.bool true) ∧ Below w.heap.size w w' := by
  have ha' : 0 ≤ a ∧ a < 256 := (by have m1 : IntKind.u8.min = 0 := rfl; have m2 : IntKind.u8.max = 255 := rfl; simp [Lit.wf] at ha; omega)
  have hb' : 0 ≤ b ∧ b < 256 := (by have m1 : IntKind.u8.min = 0 := rfl; have m2 : IntKind.u8.max = 255 := rfl; simp [Lit.wf] at hb; omega)
  clear ha hb
  obtain ⟨a0, a1⟩ := ha'
  obtain ⟨b0, b1⟩ := hb'
  obtain ⟨n, hn⟩ : ∃ n : Nat, a % 128 = (n : Int) := ⟨(a % 128).toNat, by omega⟩
  have hn' : n < 128 := by omega
  obtain ⟨k, hk⟩ : ∃ n : Nat, b % 7 = (n : Int) := ⟨(b % 7).toNat, by omega⟩
  have hk' : k < 7 := by omega
  have hs := sub_lt n hn' k hk'
  obtain ⟨s1, s2, s3⟩ := hs
  have D1 := Lib.hid (fun w hT => weekdays_any (sub n k) s1 w hT)
  have D2 := Lib.hid (fun w hT => weekdays_any (add n k) s2 w hT)
  have HT := Lib.hid hT
  clear hT
  have hkk : k = 0 ∨ k = 1 ∨ k = 2 ∨ k = 3 ∨ k = 4 ∨ k = 5 ∨ k = 6 := by omega
  rcases hkk with rfl | rfl | rfl | rfl | rfl | rfl | rfl
  · have e1 := sub0 n hn'
    have e2 := add0 n hn'
    have hS20 := wdT_le _ s1
    generalize wdT (sub n 0) = S at *
    generalize wdT (add n 0) = T at *
    have hszS : (⟨S.toArray⟩ : ByteArray).size = S.length := by simp [ByteArray.size]
    have hszT : (⟨T.toArray⟩ : ByteArray).size = T.length := by simp [ByteArray.size]
    have htl := toList_mk S
    by_cases hS : S = [45]
    · rw [if_pos hS] at s3
      rw [s3] at hszT
      have hq : (S == [45]) = true := by rw [hS]; rfl
      have Hx := Lib.hid hS
      clear htl hS s3
      go_enter Tryd.func3, Tryd.ntmps3
      go_wp2_with fail
      (with_reducible refine (D1.out _ HT.out).mono ?_); rintro e w1 ⟨rfl, hb1⟩
      go_wp2_with fail
      (with_reducible refine (D2.out _ (HT.out.later hb1)).mono ?_); rintro e w2 ⟨rfl, hb2⟩
      go_wp2_with fail
      (with_reducible refine (fixed_any _).mono ?_); rintro e w3 ⟨rfl, hb3⟩
      have b2 := below_call hb1 hb2
      go_wp2_with fail
      go_ret
      exact ⟨rfl, below_call b2 hb3⟩
    · rw [if_neg hS] at s3
      rw [s3] at hszT
      have hq : (S == [45]) = false := by rw [beq_eq_false_iff_ne]; exact hS
      have hlen : (((S.length + 3 : Nat) : Int) == (S.length : Int) + 3) = true := by rw [beq_iff_eq]; omega
      have hbd : S.length ≤ 20 := hS20
      have hlen2 : ((S.length : Int) + 3 == (S.length : Int) + 3) = true := by simp
      have Hx := Lib.hid hS
      clear htl hS s3
      go_enter Tryd.func3, Tryd.ntmps3
      go_wp2_with fail
      (with_reducible refine (D1.out _ HT.out).mono ?_); rintro e w1 ⟨rfl, hb1⟩
      go_wp2_with fail
      (with_reducible refine (D2.out _ (HT.out.later hb1)).mono ?_); rintro e w2 ⟨rfl, hb2⟩
      go_wp2_with fail
      (with_reducible refine (fixed_any _).mono ?_); rintro e w3 ⟨rfl, hb3⟩
      have b2 := below_call hb1 hb2
      go_wp2_with fail
      go_ret
      exact ⟨rfl, below_call b2 hb3⟩
  · have e1 := sub1 n hn'
    have e2 := add1 n hn'
    have hS20 := wdT_le _ s1
    generalize wdT (sub n 1) = S at *
    generalize wdT (add n 1) = T at *
    have hszS : (⟨S.toArray⟩ : ByteArray).size = S.length := by simp [ByteArray.size]
    have hszT : (⟨T.toArray⟩ : ByteArray).size = T.length := by simp [ByteArray.size]
    have htl := toList_mk S
    by_cases hS : S = [45]
    · rw [if_pos hS] at s3
      rw [s3] at hszT
      have hq : (S == [45]) = true := by rw [hS]; rfl
      have Hx := Lib.hid hS
      clear htl hS s3
      go_enter Tryd.func3, Tryd.ntmps3
      go_wp2_with fail
      (with_reducible refine (D1.out _ HT.out).mono ?_); rintro e w1 ⟨rfl, hb1⟩
      go_wp2_with fail
      (with_reducible refine (D2.out _ (HT.out.later hb1)).mono ?_); rintro e w2 ⟨rfl, hb2⟩
      go_wp2_with fail
      (with_reducible refine (fixed_any _).mono ?_); rintro e w3 ⟨rfl, hb3⟩
      have b2 := below_call hb1 hb2
      go_wp2_with fail
      go_ret
      exact ⟨rfl, below_call b2 hb3⟩
    · rw [if_neg hS] at s3
      rw [s3] at hszT
      have hq : (S == [45]) = false := by rw [beq_eq_false_iff_ne]; exact hS
      have hlen : (((S.length + 3 : Nat) : Int) == (S.length : Int) + 3) = true := by rw [beq_iff_eq]; omega
      have hbd : S.length ≤ 20 := hS20
      have hlen2 : ((S.length : Int) + 3 == (S.length : Int) + 3) = true := by simp
      have Hx := Lib.hid hS
      clear htl hS s3
      go_enter Tryd.func3, Tryd.ntmps3
      go_wp2_with fail
      (with_reducible refine (D1.out _ HT.out).mono ?_); rintro e w1 ⟨rfl, hb1⟩
      go_wp2_with fail
      (with_reducible refine (D2.out _ (HT.out.later hb1)).mono ?_); rintro e w2 ⟨rfl, hb2⟩
      go_wp2_with fail
      (with_reducible refine (fixed_any _).mono ?_); rintro e w3 ⟨rfl, hb3⟩
      have b2 := below_call hb1 hb2
      go_wp2_with fail
      go_ret
      exact ⟨rfl, below_call b2 hb3⟩
  · have e1 := sub2 n hn'
    have e2 := add2 n hn'
    have hS20 := wdT_le _ s1
    generalize wdT (sub n 2) = S at *
    generalize wdT (add n 2) = T at *
    have hszS : (⟨S.toArray⟩ : ByteArray).size = S.length := by simp [ByteArray.size]
    have hszT : (⟨T.toArray⟩ : ByteArray).size = T.length := by simp [ByteArray.size]
    have htl := toList_mk S
    by_cases hS : S = [45]
    · rw [if_pos hS] at s3
      rw [s3] at hszT
      have hq : (S == [45]) = true := by rw [hS]; rfl
      have Hx := Lib.hid hS
      clear htl hS s3
      go_enter Tryd.func3, Tryd.ntmps3
      go_wp2_with fail
      (with_reducible refine (D1.out _ HT.out).mono ?_); rintro e w1 ⟨rfl, hb1⟩
      go_wp2_with fail
      (with_reducible refine (D2.out _ (HT.out.later hb1)).mono ?_); rintro e w2 ⟨rfl, hb2⟩
      go_wp2_with fail
      (with_reducible refine (fixed_any _).mono ?_); rintro e w3 ⟨rfl, hb3⟩
      have b2 := below_call hb1 hb2
      go_wp2_with fail
      go_ret
      exact ⟨rfl, below_call b2 hb3⟩
    · rw [if_neg hS] at s3
      rw [s3] at hszT
      have hq : (S == [45]) = false := by rw [beq_eq_false_iff_ne]; exact hS
      have hlen : (((S.length + 3 : Nat) : Int) == (S.length : Int) + 3) = true := by rw [beq_iff_eq]; omega
      have hbd : S.length ≤ 20 := hS20
      have hlen2 : ((S.length : Int) + 3 == (S.length : Int) + 3) = true := by simp
      have Hx := Lib.hid hS
      clear htl hS s3
      go_enter Tryd.func3, Tryd.ntmps3
      go_wp2_with fail
      (with_reducible refine (D1.out _ HT.out).mono ?_); rintro e w1 ⟨rfl, hb1⟩
      go_wp2_with fail
      (with_reducible refine (D2.out _ (HT.out.later hb1)).mono ?_); rintro e w2 ⟨rfl, hb2⟩
      go_wp2_with fail
      (with_reducible refine (fixed_any _).mono ?_); rintro e w3 ⟨rfl, hb3⟩
      have b2 := below_call hb1 hb2
      go_wp2_with fail
      go_ret
      exact ⟨rfl, below_call b2 hb3⟩
  · have e1 := sub3 n hn'
    have e2 := add3 n hn'
    have hS20 := wdT_le _ s1
    generalize wdT (sub n 3) = S at *
    generalize wdT (add n 3) = T at *
    have hszS : (⟨S.toArray⟩ : ByteArray).size = S.length := by simp [ByteArray.size]
    have hszT : (⟨T.toArray⟩ : ByteArray).size = T.length := by simp [ByteArray.size]
    have htl := toList_mk S
    by_cases hS : S = [45]
    · rw [if_pos hS] at s3
      rw [s3] at hszT
      have hq : (S == [45]) = true := by rw [hS]; rfl
      have Hx := Lib.hid hS
      clear htl hS s3
      go_enter Tryd.func3, Tryd.ntmps3
      go_wp2_with fail
      (with_reducible refine (D1.out _ HT.out).mono ?_); rintro e w1 ⟨rfl, hb1⟩
      go_wp2_with fail
      (with_reducible refine (D2.out _ (HT.out.later hb1)).mono ?_); rintro e w2 ⟨rfl, hb2⟩
      go_wp2_with fail
      (with_reducible refine (fixed_any _).mono ?_); rintro e w3 ⟨rfl, hb3⟩
      have b2 := below_call hb1 hb2
      go_wp2_with fail
      go_ret
      exact ⟨rfl, below_call b2 hb3⟩
    · rw [if_neg hS] at s3
      rw [s3] at hszT
      have hq : (S == [45]) = false := by rw [beq_eq_false_iff_ne]; exact hS
      have hlen : (((S.length + 3 : Nat) : Int) == (S.length : Int) + 3) = true := by rw [beq_iff_eq]; omega
      have hbd : S.length ≤ 20 := hS20
      have hlen2 : ((S.length : Int) + 3 == (S.length : Int) + 3) = true := by simp
      have Hx := Lib.hid hS
      clear htl hS s3
      go_enter Tryd.func3, Tryd.ntmps3
      go_wp2_with fail
      (with_reducible refine (D1.out _ HT.out).mono ?_); rintro e w1 ⟨rfl, hb1⟩
      go_wp2_with fail
      (with_reducible refine (D2.out _ (HT.out.later hb1)).mono ?_); rintro e w2 ⟨rfl, hb2⟩
      go_wp2_with fail
      (with_reducible refine (fixed_any _).mono ?_); rintro e w3 ⟨rfl, hb3⟩
      have b2 := below_call hb1 hb2
      go_wp2_with fail
      go_ret
      exact ⟨rfl, below_call b2 hb3⟩
  · have e1 := sub4 n hn'
    have e2 := add4 n hn'
    have hS20 := wdT_le _ s1
    generalize wdT (sub n 4) = S at *
    generalize wdT (add n 4) = T at *
    have hszS : (⟨S.toArray⟩ : ByteArray).size = S.length := by simp [ByteArray.size]
    have hszT : (⟨T.toArray⟩ : ByteArray).size = T.length := by simp [ByteArray.size]
    have htl := toList_mk S
    by_cases hS : S = [45]
    · rw [if_pos hS] at s3
      rw [s3] at hszT
      have hq : (S == [45]) = true := by rw [hS]; rfl
      have Hx := Lib.hid hS
      clear htl hS s3
      go_enter Tryd.func3, Tryd.ntmps3
      go_wp2_with fail
      (with_reducible refine (D1.out _ HT.out).mono ?_); rintro e w1 ⟨rfl, hb1⟩
      go_wp2_with fail
      (with_reducible refine (D2.out _ (HT.out.later hb1)).mono ?_); rintro e w2 ⟨rfl, hb2⟩
      go_wp2_with fail
      (with_reducible refine (fixed_any _).mono ?_); rintro e w3 ⟨rfl, hb3⟩
      have b2 := below_call hb1 hb2
      go_wp2_with fail
      go_ret
      exact ⟨rfl, below_call b2 hb3⟩
    · rw [if_neg hS] at s3
      rw [s3] at hszT
      have hq : (S == [45]) = false := by rw [beq_eq_false_iff_ne]; exact hS
      have hlen : (((S.length + 3 : Nat) : Int) == (S.length : Int) + 3) = true := by rw [beq_iff_eq]; omega
      have hbd : S.length ≤ 20 := hS20
      have hlen2 : ((S.length : Int) + 3 == (S.length : Int) + 3) = true := by simp
      have Hx := Lib.hid hS
      clear htl hS s3
      go_enter Tryd.func3, Tryd.ntmps3
      go_wp2_with fail
      (with_reducible refine (D1.out _ HT.out).mono ?_); rintro e w1 ⟨rfl, hb1⟩
      go_wp2_with fail
      (with_reducible refine (D2.out _ (HT.out.later hb1)).mono ?_); rintro e w2 ⟨rfl, hb2⟩
      go_wp2_with fail
      (with_reducible refine (fixed_any _).mono ?_); rintro e w3 ⟨rfl, hb3⟩
      have b2 := below_call hb1 hb2
      go_wp2_with fail
      go_ret
      exact ⟨rfl, below_call b2 hb3⟩
  · have e1 := sub5 n hn'
    have e2 := add5 n hn'
    have hS20 := wdT_le _ s1
    generalize wdT (sub n 5) = S at *
    generalize wdT (add n 5) = T at *
    have hszS : (⟨S.toArray⟩ : ByteArray).size = S.length := by simp [ByteArray.size]
    have hszT : (⟨T.toArray⟩ : ByteArray).size = T.length := by simp [ByteArray.size]
    have htl := toList_mk S
    by_cases hS : S = [45]
    · rw [if_pos hS] at s3
      rw [s3] at hszT
      have hq : (S == [45]) = true := by rw [hS]; rfl
      have Hx := Lib.hid hS
      clear htl hS s3
      go_enter Tryd.func3, Tryd.ntmps3
      go_wp2_with fail
      (with_reducible refine (D1.out _ HT.out).mono ?_); rintro e w1 ⟨rfl, hb1⟩
      go_wp2_with fail
      (with_reducible refine (D2.out _ (HT.out.later hb1)).mono ?_); rintro e w2 ⟨rfl, hb2⟩
      go_wp2_with fail
      (with_reducible refine (fixed_any _).mono ?_); rintro e w3 ⟨rfl, hb3⟩
      have b2 := below_call hb1 hb2
      go_wp2_with fail
      go_ret
      exact ⟨rfl, below_call b2 hb3⟩
    · rw [if_neg hS] at s3
      rw [s3] at hszT
      have hq : (S == [45]) = false := by rw [beq_eq_false_iff_ne]; exact hS
      have hlen : (((S.length + 3 : Nat) : Int) == (S.length : Int) + 3) = true := by rw [beq_iff_eq]; omega
      have hbd : S.length ≤ 20 := hS20
      have hlen2 : ((S.length : Int) + 3 == (S.length : Int) + 3) = true := by simp
      have Hx := Lib.hid hS
      clear htl hS s3
      go_enter Tryd.func3, Tryd.ntmps3
      go_wp2_with fail
      (with_reducible refine (D1.out _ HT.out).mono ?_); rintro e w1 ⟨rfl, hb1⟩
      go_wp2_with fail
      (with_reducible refine (D2.out _ (HT.out.later hb1)).mono ?_); rintro e w2 ⟨rfl, hb2⟩
      go_wp2_with fail
      (with_reducible refine (fixed_any _).mono ?_); rintro e w3 ⟨rfl, hb3⟩
      have b2 := below_call hb1 hb2
      go_wp2_with fail
      go_ret
      exact ⟨rfl, below_call b2 hb3⟩
  · have e1 := sub6 n hn'
    have e2 := add6 n hn'
    have hS20 := wdT_le _ s1
    generalize wdT (sub n 6) = S at *
    generalize wdT (add n 6) = T at *
    have hszS : (⟨S.toArray⟩ : ByteArray).size = S.length := by simp [ByteArray.size]
    have hszT : (⟨T.toArray⟩ : ByteArray).size = T.length := by simp [ByteArray.size]
    have htl := toList_mk S
    by_cases hS : S = [45]
    · rw [if_pos hS] at s3
      rw [s3] at hszT
      have hq : (S == [45]) = true := by rw [hS]; rfl
      have Hx := Lib.hid hS
      clear htl hS s3
      go_enter Tryd.func3, Tryd.ntmps3
      go_wp2_with fail
      (with_reducible refine (D1.out _ HT.out).mono ?_); rintro e w1 ⟨rfl, hb1⟩
      go_wp2_with fail
      (with_reducible refine (D2.out _ (HT.out.later hb1)).mono ?_); rintro e w2 ⟨rfl, hb2⟩
      go_wp2_with fail
      (with_reducible refine (fixed_any _).mono ?_); rintro e w3 ⟨rfl, hb3⟩
      have b2 := below_call hb1 hb2
      go_wp2_with fail
      go_ret
      exact ⟨rfl, below_call b2 hb3⟩
    · rw [if_neg hS] at s3
      rw [s3] at hszT
      have hq : (S == [45]) = false := by rw [beq_eq_false_iff_ne]; exact hS
      have hlen : (((S.length + 3 : Nat) : Int) == (S.length : Int) + 3) = true := by rw [beq_iff_eq]; omega
      have hbd : S.length ≤ 20 := hS20
      have hlen2 : ((S.length : Int) + 3 == (S.length : Int) + 3) = true := by simp
      have Hx := Lib.hid hS
      clear htl hS s3
      go_enter Tryd.func3, Tryd.ntmps3
      go_wp2_with fail
      (with_reducible refine (D1.out _ HT.out).mono ?_); rintro e w1 ⟨rfl, hb1⟩
      go_wp2_with fail
      (with_reducible refine (D2.out _ (HT.out.later hb1)).mono ?_); rintro e w2 ⟨rfl, hb2⟩
      go_wp2_with fail
      (with_reducible refine (fixed_any _).mono ?_); rintro e w3 ⟨rfl, hb3⟩
      have b2 := below_call hb1 hb2
      go_wp2_with fail
      go_ret
      exact ⟨rfl, below_call b2 hb3⟩
end Go.Proofs.YtmacmjbjccfgaaaDoor
