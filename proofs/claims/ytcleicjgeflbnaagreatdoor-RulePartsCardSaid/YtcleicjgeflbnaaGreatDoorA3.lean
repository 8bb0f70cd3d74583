/- Walks of the clock's functions and what they compute; part A3 of the proof of the laws of layer 3. Conditions: each theorem's own. -/
import Derived.Test.YtcleicjgeflbnaaGreatDoorA2
import Derived.Deep.RegionHeld3
namespace Go.Proofs.YtcleicjgeflbnaaGreatDoor
open Go.RowKit

def sDay (n : Int) : Int := if n = 158310720 then 109937 else n / 1440
def sMin (n : Int) : Int := if n = 158310720 then 1440 else n % 1440
def stampText (n : Int) : List Int := digs (dateY (sDay n)) 4 ++ (45 :: (digs (dateM (sDay n)) 2 ++ (45 :: (digs (dD (sDay n)) 2 ++ (84 :: minText (sMin n))))))

theorem ret_str {a b : ByteArray} {c : Value} (h : a = b) : Ending.returned (.tuple #[.string a, c]) = Ending.returned (.tuple #[.string b, c]) := by rw [h]

theorem stamp_no (n : Int) (h : n < 0 ∨ 158310720 < n) (w : World) :
    Calls Tryz.prog 59 #[.int .i64 n] w fun e w' => e = .returned (.tuple #[.string ⟨#[]⟩, .bool false]) ∧ Below w.heap.size w w' := by
  rcases h with h | h
  · go_enter Tryz.func59, Tryz.ntmps59
    go_wp2
    go_ret2
    exact ⟨rfl, Below.refl _ _⟩
  · have h' : ¬ n < 0 := by omega
    go_enter Tryz.func59, Tryz.ntmps59
    go_wp2
    go_ret2
    exact ⟨rfl, Below.refl _ _⟩

theorem date_bd (n : Int) (h0 : 0 ≤ n) (h1 : n < 109938) : 1899 ≤ dateY n ∧ dateY n ≤ 2201 ∧ 1 ≤ dateM n ∧ dateM n ≤ 12 ∧ 1 ≤ dD n ∧ dD n ≤ 31 := by
  have a := yOf_spec (n + 693901) (by omega) (by omega)
  have b := dM_bd n h0 h1
  unfold dateY dateM
  split <;> omega

set_option maxRecDepth 100000 in
set_option maxHeartbeats 4000000 in
theorem stamp_tail (x n : Int) (hx : 0 ≤ x ∧ x < 109938) (h0 : 0 ≤ n) (h1 : n ≤ 158310720) (hn : sDay n = x) (w : World) :
    Calls Tryz.prog 59 #[.int .i64 n] w fun e w' => e = .returned (.tuple #[.string (strOfNums (stampText n)), .bool true]) ∧ Below w.heap.size w w' := by
  have h2 : ¬ n < 0 := by omega
  have h3 : ¬ 158310720 < n := by omega
  have hb := date_bd x (by omega) (by omega)
  have s1 := strOfNums_size (digs (dateY x) 4)
  have s2 := strOfNums_size (digs (dateM x) 2)
  have s3 := strOfNums_size (digs (dD x) 2)
  have s4 := strOfNums_size (minText (sMin n))
  rw [digs_length] at s1 s2 s3
  have s5 : (minText (sMin n)).length = 5 := by simp [minText, digs_length]
  rw [s5] at s4
  have hfin : strOfNums (digs (dateY x) 4) ++ ⟨#[45]⟩ ++ strOfNums (digs (dateM x) 2) ++ ⟨#[45]⟩ ++ strOfNums (digs (dD x) 2) ++ ⟨#[84]⟩ ++ strOfNums (minText (sMin n)) = strOfNums (stampText n) := by
    rw [show (⟨#[45]⟩ : ByteArray) = strOfNums [45] from rfl, show (⟨#[84]⟩ : ByteArray) = strOfNums [84] from rfl]
    simp only [strOfNums_append, stampText, hn, List.append_assoc, List.cons_append, List.nil_append]
  have Hfin := Lib.hid hfin
  clear hfin s5
  have hday : n = 158310720 ∧ x = 109937 ∧ sMin n = 1440 ∨ n ≠ 158310720 ∧ x = n / 1440 ∧ sMin n = n % 1440 := by
    unfold sDay sMin at *; split at hn <;> simp_all
  rcases hday with ⟨e1, e2, e3⟩ | ⟨e1, e2, e3⟩
  · subst e1 e2
    rw [e3] at s4 Hfin
    clear e3 hn
    go_enter Tryz.func59, Tryz.ntmps59
    go_wp2_with fail
    refine (date_yes _ (by omega) (by omega) _).mono ?_
    rintro e w1 ⟨rfl, hb1⟩
    go_wp2_with fail
    refine (minute_yes _ (by omega) (by omega) _).mono ?_
    rintro e w2 ⟨rfl, hb2⟩
    have hc : w2.cell? ⟨w1.heap.size, 0, none⟩ = some (.int .i64 (dateY 109937)) ∧ w2.cell? ⟨w1.heap.size, 1, none⟩ = some (.int .i64 (dateM 109937)) ∧ w2.cell? ⟨w1.heap.size, 2, none⟩ = some (.int .i64 (dD 109937)) := by
      refine ⟨?_, ?_, ?_⟩ <;> (rw [hb2.cell (by simp)]; simp [go_sem])
    obtain ⟨c1, c2, c3⟩ := hc
    have hz : w1.heap.size < w2.heap.size := by have := hb2.size; simp at this; omega
    go_wp2
    go_region_held3 (fun W => W.cell? ⟨w1.heap.size, 0, none⟩ = some (.int .i64 (dateY 109937)) ∧ W.cell? ⟨w1.heap.size, 1, none⟩ = some (.int .i64 (dateM 109937)) ∧ W.cell? ⟨w1.heap.size, 2, none⟩ = some (.int .i64 (dD 109937)) ∧ w1.heap.size < W.heap.size ∧ Below w2.heap.size w2 W)
      (first
        | exact ⟨by rw [World.cell?_drew]; exact c1, by rw [World.cell?_drew]; exact c2, by rw [World.cell?_drew]; exact c3, hz, (Below.refl _ _).drew⟩
        | (obtain ⟨q1, q2, q3, q4, q5⟩ := ‹_ ∧ _ ∧ _ ∧ _ ∧ Below _ _ _›; exact ⟨(hbb.cell (by exact q4)).trans q1, (hbb.cell (by exact q4)).trans q2, (hbb.cell (by exact q4)).trans q3, (by have := hbb.size; omega), below_callA q5 hbb (by have := hb2.size; omega)⟩))
      (first | (go_at_call 81; (with_reducible refine (digits4 _ ?_ ?_ _).mono ?_); omega; omega; rintro e w' ⟨rfl, hbb⟩) | (go_at_call 81; (with_reducible refine (digits2 _ ?_ ?_ _).mono ?_); omega; omega; rintro e w' ⟨rfl, hbb⟩))
    go_wp2
    go_ret2
    obtain ⟨q1, q2, q3, q4, q5⟩ := ‹_ ∧ _ ∧ _ ∧ _ ∧ Below _ _ _›
    refine ⟨?_, ?_⟩
    · exact ret_str Hfin.out
    · exact below_callA (below_callA hb1 (((Below.refl _ _).alloc (Nat.le_refl _) _).trans (hb2.mono (by simp)))) q5 (by have := hb1.size; omega)
  · have He2 := Lib.hid e2
    rw [e3] at s4 Hfin
    have hx0 : 0 ≤ n / 1440 := by omega
    rw [e2] at hx hb s1 s2 s3 Hfin
    clear e3 hn e2
    go_enter Tryz.func59, Tryz.ntmps59
    go_wp2_with fail
    refine (date_yes _ (by omega) (by omega) _).mono ?_
    rintro e w1 ⟨rfl, hb1⟩
    go_wp2_with fail
    refine (minute_yes _ (by omega) (by omega) _).mono ?_
    rintro e w2 ⟨rfl, hb2⟩
    have hc : w2.cell? ⟨w1.heap.size, 0, none⟩ = some (.int .i64 (dateY (n / 1440))) ∧ w2.cell? ⟨w1.heap.size, 1, none⟩ = some (.int .i64 (dateM (n / 1440))) ∧ w2.cell? ⟨w1.heap.size, 2, none⟩ = some (.int .i64 (dD (n / 1440))) := by
      refine ⟨?_, ?_, ?_⟩ <;> (rw [hb2.cell (by simp)]; simp [go_sem])
    obtain ⟨c1, c2, c3⟩ := hc
    have hz : w1.heap.size < w2.heap.size := by have := hb2.size; simp at this; omega
    go_wp2
    go_region_held3 (fun W => W.cell? ⟨w1.heap.size, 0, none⟩ = some (.int .i64 (dateY (n / 1440))) ∧ W.cell? ⟨w1.heap.size, 1, none⟩ = some (.int .i64 (dateM (n / 1440))) ∧ W.cell? ⟨w1.heap.size, 2, none⟩ = some (.int .i64 (dD (n / 1440))) ∧ w1.heap.size < W.heap.size ∧ Below w2.heap.size w2 W)
      (first
        | exact ⟨by rw [World.cell?_drew]; exact c1, by rw [World.cell?_drew]; exact c2, by rw [World.cell?_drew]; exact c3, hz, (Below.refl _ _).drew⟩
        | (obtain ⟨q1, q2, q3, q4, q5⟩ := ‹_ ∧ _ ∧ _ ∧ _ ∧ Below _ _ _›; exact ⟨(hbb.cell (by exact q4)).trans q1, (hbb.cell (by exact q4)).trans q2, (hbb.cell (by exact q4)).trans q3, (by have := hbb.size; omega), below_callA q5 hbb (by have := hb2.size; omega)⟩))
      (first | (go_at_call 81; (with_reducible refine (digits4 _ ?_ ?_ _).mono ?_); omega; omega; rintro e w' ⟨rfl, hbb⟩) | (go_at_call 81; (with_reducible refine (digits2 _ ?_ ?_ _).mono ?_); omega; omega; rintro e w' ⟨rfl, hbb⟩))
    go_wp2
    go_ret2
    obtain ⟨q1, q2, q3, q4, q5⟩ := ‹_ ∧ _ ∧ _ ∧ _ ∧ Below _ _ _›
    refine ⟨?_, ?_⟩
    · exact ret_str Hfin.out
    · exact below_callA (below_callA hb1 (((Below.refl _ _).alloc (Nat.le_refl _) _).trans (hb2.mono (by simp)))) q5 (by have := hb1.size; omega)

theorem stamp_yes (n : Int) (h0 : 0 ≤ n) (h1 : n ≤ 158310720) (w : World) :
    Calls Tryz.prog 59 #[.int .i64 n] w fun e w' => e = .returned (.tuple #[.string (strOfNums (stampText n)), .bool true]) ∧ Below w.heap.size w w' :=
  stamp_tail (sDay n) n (by unfold sDay; split <;> omega) h0 h1 rfl w
end Go.Proofs.YtcleicjgeflbnaaGreatDoor
