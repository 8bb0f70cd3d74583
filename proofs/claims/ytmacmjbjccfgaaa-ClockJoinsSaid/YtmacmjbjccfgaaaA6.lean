/- clock.number and ReadMinute: what they read; part of the proof of the laws of layer 3. Conditions: each theorem's own. -/
import Derived.Test.YtmacmjbjccfgaaaA5
import Derived.Laws.RangeAny
import Derived.Lib.RuneCount
namespace Go.Proofs.Ytmacmjbjccfgaaa
open Go.RowKit

def numB : List UInt8 → Int → Option Int
  | [], acc => some acc
  | c :: l, acc => if 48 ≤ c.toNat ∧ c.toNat ≤ 57 then numB l (10 * acc + ((c.toNat : Int) - 48)) else none

def numV (s : ByteArray) : Int × Bool := match numB s.data.toList 0 with
  | some n => (n, !s.toList.isEmpty)
  | none => (0, false)

theorem drop_cons (s : ByteArray) (pos : Nat) (h : pos < s.size) : s.data.toList.drop pos = s[pos] :: s.data.toList.drop (pos + 1) := by
  rw [List.drop_eq_getElem_cons (by simpa using h)]; rfl

theorem below_iter (w : World) (s : ByteArray) (pos : Nat) : Below w.heap.size w (w.iter s pos) := (Below.refl _ _).alloc (Nat.le_refl _) _

theorem num_ret {s : ByteArray} {n : Int} {b : Bool} (h : numV s = (n, b)) :
    Ending.returned (.tuple #[.int .i64 n, .bool b]) = Ending.returned (.tuple #[.int .i64 (numV s).1, .bool (numV s).2]) := by rw [h]

set_option maxHeartbeats 1000000 in
theorem number_any (s : ByteArray) (hs : s.size ≤ 8) (w : World) :
    Calls Try.prog 24 #[.string s] w fun e w' => e = .returned (.tuple #[.int .i64 (numV s).1, .bool (numV s).2]) ∧ Below w.heap.size w w' := by
  go_enter Try.func24, Try.ntmps24
  go_wp2
  go_loopw [4] (fun n wr => ∃ (pos : Nat) (acc : Int), pos ≤ s.size ∧ wr = w.iter s pos ∧ n = .int .i64 acc ∧ 0 ≤ acc ∧ acc < 10 ^ pos ∧ numB s.data.toList 0 = numB (s.data.toList.drop pos) acc) (fun _ wr => s.size - wr.iterPos w.heap.size)
  case atStart => exact ⟨0, 0, by omega, rfl, rfl, by omega, by omega, rfl⟩
  case round =>
    obtain ⟨pos, acc, hpos, rfl, rfl, ha0, ha1, hn⟩ := hrel
    have hp10 : (10 : Int) ^ pos ≤ 10 ^ 8 := by
      have : (10 : Nat) ^ pos ≤ 10 ^ 8 := Nat.pow_le_pow_right (by omega) (by omega)
      exact_mod_cast this
    have hacc : acc < 100000000 := by omega
    by_cases hp : pos < s.size
    · have hnx : ∀ ty, (Instr.next (.pointer (some ⟨w.heap.size, 0, none⟩)) true ty).run Try.prog (w.iter s pos) = _ := fun ty => run_next_any w s pos ty hp
      rw [drop_cons s pos hp] at hn
      by_cases hd : 48 ≤ (s[pos]).toNat ∧ (s[pos]).toNat ≤ 57
      · rw [decode_ascii s pos hp (by omega)] at hnx
        have h1 : (48 : Int) ≤ ((s[pos]).toNat : Int) := by omega
        have h2 : ((s[pos]).toNat : Int) ≤ 57 := by omega
        have H : numB s.data.toList 0 = numB (s.data.toList.drop (pos + 1)) (10 * acc + (((s[pos]).toNat : Int) - 48)) := by rw [hn, numB, if_pos hd]
        have Hn := Lib.hid H
        clear H hn
        go_wp2
        go_roundw
        case rel => exact ⟨pos + 1, 10 * acc + (((s[pos]).toNat : Int) - 48), by omega, rfl, rfl, by omega, by rw [Int.pow_succ]; omega, Hn.out⟩
        case measure => simp; omega
      · have hr : (Utf8.decode s pos).1 < 48 ∨ 57 < (Utf8.decode s pos).1 := by
          by_cases ha : (s[pos]).toNat < 128
          · rw [decode_ascii s pos hp ha]; simp; omega
          · have := (decode_high s pos hp (by omega)).1; omega
        have H : numV s = (0, false) := by unfold numV; rw [hn, numB, if_neg hd]
        have Hn := Lib.hid H
        clear H hn
        generalize (Utf8.decode s pos).1 = r at *
        rcases hr with hr | hr
        · have hr' : (r : Int) < 48 := by omega
          go_wp2
          go_ret2
          exact ⟨num_ret Hn.out, below_iter _ _ _⟩
        · have hr' : ¬ (r : Int) < 48 := by omega
          have hr'' : 57 < (r : Int) := by omega
          go_wp2
          go_ret2
          exact ⟨num_ret Hn.out, below_iter _ _ _⟩
    · have hnx : ∀ ty, (Instr.next (.pointer (some ⟨w.heap.size, 0, none⟩)) true ty).run Try.prog (w.iter s pos) = _ := fun ty => run_next_end w s pos ty hp
      have H : numV s = (acc, !s.toList.isEmpty) := by
        unfold numV; rw [hn, List.drop_of_length_le (by simp; omega)]; rfl
      have Hn := Lib.hid H
      clear H hn
      go_wp2
      go_ret2
      exact ⟨num_ret Hn.out, below_iter _ _ _⟩
end Go.Proofs.Ytmacmjbjccfgaaa
