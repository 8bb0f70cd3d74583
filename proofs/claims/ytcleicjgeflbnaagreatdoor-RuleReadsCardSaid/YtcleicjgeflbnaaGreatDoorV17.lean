/- The walk of the law RuleParts at a rule that may be: it answers true. Conditions: the tables are laid, the errors of strconv lie in their boxes. -/
import Derived.Test.YtcleicjgeflbnaaGreatDoorV16
namespace Go.Proofs.YtcleicjgeflbnaaGreatDoor
open Go.RowKit Go.ChangeShapes Go.WideShapes Go.Deep
set_option linter.all false

set_option maxRecDepth 100000 in
set_option maxHeartbeats 20000000 in
theorem parts_yes (cs : List Value) (r : RuleD) (w : World) (h : rRule w cs r) (hL : Laid w) (hE : Errs w) (hg : ¬ greatR r) (hm : mayR r) :
    Calls Tryz.prog 4 #[.agg cs.toArray] w fun e w' => e = .returned (.bool true) ∧ Below w.heap.size w w' := by
  have SR := Lib.hid h
  have HL := Lib.hid hL; have HE := Lib.hid hE
  obtain ⟨m, d, y, p, rfl, v1, v2, v3, v4, v5, hmm, hd, hy, hp⟩ := h
  have SL := Lib.hid (show rRule w [.int .i64 r.freq, .int .i64 r.interval, .int .i64 r.count, .int .i64 r.until_, m, .slice none 0 0, .slice none 0 0, .slice none 0 0, .int .i64 r.start] (lessR r) from
    ⟨m, _, _, _, rfl, v1, v2, v3, v4, v5, hmm, nil_row _ _ _, nil_row _ _ _, nil_row _ _ _⟩)
  have SO := Lib.hid (show rRule w [.int .i64 r.freq, .int .i64 r.interval, .int .i64 0, .int .i64 (-1), m, d, y, p, .int .i64 r.start] (openR r) from
    ⟨m, d, y, p, rfl, v1, v2, (show wfi .i64 (0 : Int) from ⟨by decide, by decide⟩), (show wfi .i64 (-1 : Int) from ⟨by decide, by decide⟩), v5, hmm, hd, hy, hp⟩)
  obtain ⟨om, nm, cm, rfl, -, -, -, RM⟩ := hmm.open
  obtain ⟨od, nd, cd, rfl, -, -, -, RD⟩ := hd.open
  obtain ⟨oy, ny, cy, rfl, -, -, -, RY⟩ := hy.open
  obtain ⟨op, np, cp, rfl, -, -, -, RP⟩ := hp.open
  have hf := few_of hg
  have hfL : fewR (lessR r) := ⟨hf.m, by simp [lessR], by simp [lessR], by simp [lessR]⟩
  have hfO : fewR (openR r) := ⟨hf.m, hf.d, hf.y, hf.p⟩
  have G1 := Lib.hid (fun (W : World) (hb : Below w.heap.size w W) => c_f (great_any _ r W (SR.out.later hb)) hg)
  have M1 := Lib.hid (fun (W : World) (hb : Below w.heap.size w W) => c_t (refMay_any _ r W (SR.out.later hb) hf) hm)
  have FX := Lib.hid (fun (W : World) (hb : Below w.heap.size w W) => fixed_any W (HL.out.later hb) (HE.out.later hb))
  have l1 := less_len shortT r
  have l2 := open_len shortT r hm
  rw [← toB_size (textR shortT (lessR r)), ← toB_size (textR shortT r)] at l1
  rw [← toB_size (textR shortT (openR r)), ← toB_size (textR shortT r)] at l2
  obtain ⟨S, hS⟩ : ∃ S, S = toB (textR shortT r) := ⟨_, rfl⟩
  obtain ⟨T, hT⟩ : ∃ T, T = toB (textR shortT (lessR r)) := ⟨_, rfl⟩
  obtain ⟨U, hU⟩ : ∃ U, U = toB (textR shortT (openR r)) := ⟨_, rfl⟩
  obtain ⟨q1, hq1⟩ : ∃ q, q = dec (lessR r = r) := ⟨_, rfl⟩
  obtain ⟨q2, hq2⟩ : ∃ q, q = dec (openR r = r) := ⟨_, rfl⟩
  have T1 := Lib.hid (fun (W : World) (hb : Below w.heap.size w W) => text_yes _ r W (SR.out.later hb) hf (HL.out.later hb) hm)
  have T2 := Lib.hid (fun (W : World) (hb : Below w.heap.size w W) => text_yes _ (lessR r) W (SL.out.later hb) hfL (HL.out.later hb) (less_may hm))
  have T3 := Lib.hid (fun (W : World) (hb : Below w.heap.size w W) => text_yes _ (openR r) W (SO.out.later hb) hfO (HL.out.later hb) (open_may hm))
  have E1 := Lib.hid (fun (W : World) (hb : Below w.heap.size w W) => rule_any _ _ (lessR r) r W (SL.out.later hb) (SR.out.later hb))
  have E2 := Lib.hid (fun (W : World) (hb : Below w.heap.size w W) => rule_any _ _ (openR r) r W (SO.out.later hb) (SR.out.later hb))
  rw [← hS] at T1 l1 l2
  rw [← hT] at T2 l1
  rw [← hU] at T3 l2
  rw [← hq1] at E1
  rw [← hq2] at E2
  have x1 : decide ((T.size : Int) < (S.size : Int)) = !q1 := by
    rw [hq1]
    by_cases e : lessR r = r
    · have h' : ¬ T.size < S.size := fun h => (l1.2.1 h) e
      rw [dec_t e]; simp; omega
    · have h' : T.size < S.size := l1.2.2 e
      rw [dec_f e]; simp; omega
  have x2 : decide ((U.size : Int) < (S.size : Int)) = !q2 := by
    rw [hq2]
    by_cases e : openR r = r
    · have h' : ¬ U.size < S.size := fun h => (l2.2.1 h) e
      rw [dec_t e]; simp; omega
    · have h' : U.size < S.size := l2.2.2 e
      rw [dec_f e]; simp; omega
  have y1 : (T.size : Int) ≤ (S.size : Int) := by have := l1.1; omega
  have y2 : (U.size : Int) ≤ (S.size : Int) := by have := l2.1; omega
  have c1 : (q1 = true ∧ ¬ (T.size : Int) < (S.size : Int)) ∨ (q1 = false ∧ (T.size : Int) < (S.size : Int)) := by
    cases q1
    · exact .inr ⟨rfl, by simpa using x1⟩
    · exact .inl ⟨rfl, by simpa using x1⟩
  have c2 : (q2 = true ∧ ¬ (U.size : Int) < (S.size : Int)) ∨ (q2 = false ∧ (U.size : Int) < (S.size : Int)) := by
    cases q2
    · exact .inr ⟨rfl, by simpa using x2⟩
    · exact .inl ⟨rfl, by simpa using x2⟩
  have HC := Lib.hid (And.intro c1 c2)
  clear hmm hd hy hp RM RD RY RP hL hE hg hm hf hfL hfO l1 l2 hS hT hU hq1 hq2 x1 x2 v1 v2 v3 v4 v5 c1 c2
  go_enter Tryz.func4, Tryz.ntmps4
  go_wp2_with (first
    | (go_at_call 12; ((with_reducible refine (G1.out _ ?_).mono ?_); (exact belowA _ (Below.refl _ _)); rintro e w1 ⟨rfl, hb⟩
                       have B1 := Lib.hid (show Below w.heap.size w w1 from (belowA _ (Below.refl _ _)).trans (hb.mono (by simp)))
                       have kA : ∀ j, w1.cell? ⟨w.heap.size, j, none⟩ = (#[.int .i64 r.freq, .int .i64 r.interval, .int .i64 r.count, .int .i64 r.until_, .slice om nm cm, .slice od nd cd, .slice oy ny cy, .slice op np cp, .int .i64 r.start] : Array Value)[j]? := fun j => (hb.cell (p := ⟨w.heap.size, j, none⟩) (by simp)).trans (cell_of_row _ _ _ _ _ _ (heap_alloc_new _ _))
                       have z1 : w.heap.size < w1.heap.size := Nat.lt_of_lt_of_le (by simp) hb.size
                       clear hb))
    | (go_at_call 10; ((with_reducible refine (M1.out _ B1.out).mono ?_); rintro e w2 ⟨rfl, hb⟩
                       have B2 := Lib.hid (show Below w.heap.size w w2 from B1.out.trans (hb.mono B1.out.size))
                       have kB : ∀ j, w2.cell? ⟨w.heap.size, j, none⟩ = (#[.int .i64 r.freq, .int .i64 r.interval, .int .i64 r.count, .int .i64 r.until_, .slice om nm cm, .slice od nd cd, .slice oy ny cy, .slice op np cp, .int .i64 r.start] : Array Value)[j]? := fun j => (hb.cell (p := ⟨w.heap.size, j, none⟩) z1).trans (kA j)
                       have z2 : w.heap.size < w2.heap.size := Nat.lt_of_lt_of_le z1 hb.size
                       clear hb kA)))
  go_wp2_with (go_at_call 13; ((with_reducible refine (T1.out _ B2.out).mono ?_); rintro e w3 ⟨rfl, hb⟩
                               have B3 := Lib.hid (show Below w.heap.size w w3 from B2.out.trans (hb.mono B2.out.size))
                               have kC : ∀ j, w3.cell? ⟨w.heap.size, j, none⟩ = (#[.int .i64 r.freq, .int .i64 r.interval, .int .i64 r.count, .int .i64 r.until_, .slice om nm cm, .slice od nd cd, .slice oy ny cy, .slice op np cp, .int .i64 r.start] : Array Value)[j]? := fun j => (hb.cell (p := ⟨w.heap.size, j, none⟩) z2).trans (kB j)
                               have z3 : w.heap.size < w3.heap.size := Nat.lt_of_lt_of_le z2 hb.size
                               clear hb kB z1))
  go_wp2_with (go_at_call 13; ((with_reducible refine (T2.out _ ?_).mono ?_); (exact belowA _ B3.out); rintro e w4 ⟨rfl, hb⟩
                               have B4 := Lib.hid (show Below w.heap.size w w4 from (belowA _ B3.out).trans (hb.mono (by simp; omega)))
                               have kD : ∀ j, w4.cell? ⟨w.heap.size, j, none⟩ = (#[.int .i64 r.freq, .int .i64 r.interval, .int .i64 r.count, .int .i64 r.until_, .slice om nm cm, .slice od nd cd, .slice oy ny cy, .slice op np cp, .int .i64 r.start] : Array Value)[j]? := fun j => (hb.cell (p := ⟨w.heap.size, j, none⟩) (by simp; omega)).trans (((belowA _ (Below.refl _ _) : Below w3.heap.size w3 (w3.alloc _)).cell (p := ⟨w.heap.size, j, none⟩) z3).trans (kC j))
                               have lD : ∀ j, w4.cell? ⟨w3.heap.size, j, none⟩ = (#[.int .i64 r.freq, .int .i64 r.interval, .int .i64 r.count, .int .i64 r.until_, .slice om nm cm, .slice none 0 0, .slice none 0 0, .slice none 0 0, .int .i64 r.start] : Array Value)[j]? := fun j => (hb.cell (p := ⟨w3.heap.size, j, none⟩) (by simp)).trans (cell_of_row _ _ _ _ _ _ (heap_alloc_new _ _))
                               have z4 : w3.heap.size < w4.heap.size := Nat.lt_of_lt_of_le (by simp) hb.size
                               clear hb kC z2))
  go_wp2_with (go_at_call 13; ((with_reducible refine (T3.out _ ?_).mono ?_); (exact belowA _ B4.out); rintro e w5 ⟨rfl, hb⟩
                               have B5 := Lib.hid (show Below w.heap.size w w5 from (belowA _ B4.out).trans (hb.mono (by simp; omega)))
                               have kE : ∀ j, w5.cell? ⟨w.heap.size, j, none⟩ = (#[.int .i64 r.freq, .int .i64 r.interval, .int .i64 r.count, .int .i64 r.until_, .slice om nm cm, .slice od nd cd, .slice oy ny cy, .slice op np cp, .int .i64 r.start] : Array Value)[j]? := fun j => (hb.cell (p := ⟨w.heap.size, j, none⟩) (by simp; omega)).trans (((belowA _ (Below.refl _ _) : Below w4.heap.size w4 (w4.alloc _)).cell (p := ⟨w.heap.size, j, none⟩) (by simp; omega)).trans (kD j))
                               have lE : ∀ j, w5.cell? ⟨w3.heap.size, j, none⟩ = (#[.int .i64 r.freq, .int .i64 r.interval, .int .i64 r.count, .int .i64 r.until_, .slice om nm cm, .slice none 0 0, .slice none 0 0, .slice none 0 0, .int .i64 r.start] : Array Value)[j]? := fun j => (hb.cell (p := ⟨w3.heap.size, j, none⟩) (by simp; omega)).trans (((belowA _ (Below.refl _ _) : Below w4.heap.size w4 (w4.alloc _)).cell (p := ⟨w3.heap.size, j, none⟩) z4).trans (lD j))
                               have mE : ∀ j, w5.cell? ⟨w4.heap.size, j, none⟩ = (#[.int .i64 r.freq, .int .i64 r.interval, .int .i64 0, .int .i64 (-1), .slice om nm cm, .slice od nd cd, .slice oy ny cy, .slice op np cp, .int .i64 r.start] : Array Value)[j]? := fun j => (hb.cell (p := ⟨w4.heap.size, j, none⟩) (by simp)).trans (cell_of_row _ _ _ _ _ _ (heap_alloc_new _ _))
                               have z5 : w4.heap.size < w5.heap.size := Nat.lt_of_lt_of_le (by simp) hb.size
                               clear hb kD lD))
  obtain ⟨c1, c2⟩ := HC.out
  rcases c1 with ⟨rfl, u1⟩ | ⟨rfl, u1⟩ <;> rcases c2 with ⟨rfl, u2⟩ | ⟨rfl, u2⟩
  all_goals
    go_wp2_with (first
      | (go_at_call 7; ((with_reducible refine (FX.out _ B5.out).mono ?_); rintro e w6 ⟨rfl, hb⟩
                        have B6 := Lib.hid (show Below w.heap.size w w6 from B5.out.trans (hb.mono B5.out.size))
                        have kF : ∀ j, w6.cell? ⟨w.heap.size, j, none⟩ = (#[.int .i64 r.freq, .int .i64 r.interval, .int .i64 r.count, .int .i64 r.until_, .slice om nm cm, .slice od nd cd, .slice oy ny cy, .slice op np cp, .int .i64 r.start] : Array Value)[j]? := fun j => (hb.cell (p := ⟨w.heap.size, j, none⟩) (by simp only; omega)).trans (kE j)
                        have lF : ∀ j, w6.cell? ⟨w3.heap.size, j, none⟩ = (#[.int .i64 r.freq, .int .i64 r.interval, .int .i64 r.count, .int .i64 r.until_, .slice om nm cm, .slice none 0 0, .slice none 0 0, .slice none 0 0, .int .i64 r.start] : Array Value)[j]? := fun j => (hb.cell (p := ⟨w3.heap.size, j, none⟩) (by simp only; omega)).trans (lE j)
                        have mF : ∀ j, w6.cell? ⟨w4.heap.size, j, none⟩ = (#[.int .i64 r.freq, .int .i64 r.interval, .int .i64 0, .int .i64 (-1), .slice om nm cm, .slice od nd cd, .slice oy ny cy, .slice op np cp, .int .i64 r.start] : Array Value)[j]? := fun j => (hb.cell (p := ⟨w4.heap.size, j, none⟩) z5).trans (mE j)
                        have z6 : w5.heap.size ≤ w6.heap.size := hb.size
                        clear hb kE lE mE))
      | (go_at_call 9; ((with_reducible refine (E1.out _ B6.out).mono ?_); rintro e w7 ⟨rfl, hb⟩
                        have B7 := Lib.hid (show Below w.heap.size w w7 from B6.out.trans (hb.mono B6.out.size))
                        have kG : ∀ j, w7.cell? ⟨w.heap.size, j, none⟩ = (#[.int .i64 r.freq, .int .i64 r.interval, .int .i64 r.count, .int .i64 r.until_, .slice om nm cm, .slice od nd cd, .slice oy ny cy, .slice op np cp, .int .i64 r.start] : Array Value)[j]? := fun j => (hb.cell (p := ⟨w.heap.size, j, none⟩) (by simp only; omega)).trans (kF j)
                        have mG : ∀ j, w7.cell? ⟨w4.heap.size, j, none⟩ = (#[.int .i64 r.freq, .int .i64 r.interval, .int .i64 0, .int .i64 (-1), .slice om nm cm, .slice od nd cd, .slice oy ny cy, .slice op np cp, .int .i64 r.start] : Array Value)[j]? := fun j => (hb.cell (p := ⟨w4.heap.size, j, none⟩) (by simp only; omega)).trans (mF j)
                        clear hb kF lF mF))
      | (go_at_call 9; ((with_reducible refine (E2.out _ B7.out).mono ?_); rintro e w8 ⟨rfl, hb⟩
                        have B8 := Lib.hid (show Below w.heap.size w w8 from B7.out.trans (hb.mono B7.out.size))
                        clear hb)))
    go_ret
    refine ⟨congrArg (fun b => Ending.returned (.bool b)) (?_ : _ = true), B8.out⟩
    first
      | rfl
      | (simp only [Bool.and_eq_true, Bool.not_eq_true', decide_eq_true_eq, decide_eq_false_iff_not]; omega)
end Go.Proofs.YtcleicjgeflbnaaGreatDoor
