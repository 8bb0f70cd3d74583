/- The document's row. Condition: at most ten thousand numbers. -/
import Derived.Test.YtcleicjgeflbnaaGreatR7
namespace Go.Proofs.YtcleicjgeflbnaaGreat
open Go.RowKit Go.ChangeShapes Go.WideShapes Go.Deep
set_option linter.all false

theorem add_none (a : Addr) : a.add 0 = a := by simp [Addr.add]
set_option maxHeartbeats 8000000 in
set_option maxRecDepth 100000 in
theorem refRow_any (o : Option Addr) (n c : Nat) (xs : List Int) (most : Nat) (below : Bool) (w : World) (h : Row w 1 (rI .i64) (.slice o n c) xs) (hn : n ≤ 10000) (hm : most ≤ 10000) :
    Calls Tryz.prog 48 #[.slice o n c, .int .i64 (most : Nat), .bool below] w fun e w' => e = .returned (.bool (dec (rowMay most below xs))) ∧ Below w.heap.size w w' := by
  have S := Lib.hid h
  have L := Lib.hid h.len
  clear h
  have hneg : wrap64 (-(most : Int)) = -(most : Int) := by unfold wrap64; omega
  have hneg2 : (IntKind.i64).wrap (-(most : Int)) = -(most : Int) := by rw [IntKind.wrap_i64]; omega
  have hnot : ∀ (x : Bool) (w : World), (Op.unary .not (.bool x)).run Tryz.prog w = .ok (.bool (!x)) w := fun _ _ => rfl
  cases below with
  | false =>
    go_enter Tryz.func48, Tryz.ntmps48
    go_wp2_with fail
    go_loopw [10] (fun b wr => ∃ k : Nat, k ≤ n ∧ b = .int .i64 (k : Nat) ∧ Hid (Below w.heap.size w wr) ∧ Hid (∀ (i : Nat) x, i < k → xs[i]? = some x → rowOne most false x) ∧ Hid (risesTo xs k)) (fun b _ => n - (intOf b).toNat)
    case atStart => exact ⟨0, Nat.zero_le _, rfl, Below.refl _ _, fun i x h => absurd h (Nat.not_lt_zero _), fun i a b h => absurd h (by omega)⟩
    case round =>
      obtain ⟨k, hk, rfl, HB, I, J⟩ := hrel
      by_cases hlt : k < n
      · have hlt' : (k : Int) < (n : Int) := by omega
        obtain ⟨x, a1, cs1, hx, rfl, q1, ⟨rfl, _⟩, q0, _⟩ := S.out.elem HB.out k hlt
        have e0 := q0 (by decide)
        simp only [List.getElem?_cons_zero, Nat.mul_one] at e0
        have HX := Lib.hid hx
        clear q0 q1 hx
        rcases k with _ | j
        · rw [add_none] at e0
          go_wp2_with fail
          refine wp_region_quiet_lit (by kernel_rfl) (by kernel_rfl) ?_
          repeat (any_goals (first | go_big_quiet_step (fail) | quiet_step (fail) | (refine wpQuiet_step (fun K hK => ?_); go_simp; split <;> (refine hK _ ?_; clear hK K))))
          all_goals (refine wpQuiet_nil ?_; intro _ hw'; obtain ⟨nq, hw''⟩ := hw'; subst hw'')
          all_goals go_wp2_with fail
          all_goals first
            | (go_ret
               refine ⟨ret_f (fun hM => ?_), below_drewN HB.out _⟩
               obtain ⟨z1, z2, z3, z4⟩ := hM.1 x (List.mem_of_getElem? HX.out)
               first | omega | (simp_all; done) | (simp_all; omega))
            | (go_roundw
               case measure => simp [intOf]; omega
               case rel =>
                 first
                   | refine ⟨1, ?_, ?_, ?_, ?_, ?_⟩
                   | ((repeat apply Exists.intro); refine ⟨⟨1, ?_, ?_, ?_, ?_, ?_⟩, rfl⟩)
                 · omega
                 · go_num
                 · exact below_drewN HB.out _
                 · intro i z hi hz
                   by_cases e : i = 0
                   · subst e
                     rw [HX.out] at hz; cases hz
                     refine ⟨?_, ?_, ?_, ?_⟩ <;> first | omega | (simp_all; done) | (simp_all; omega) | (left; omega) | (right; rfl)
                   · exact I.out i z (by omega) hz
                 · intro i a b hi ha hb; exact absurd hi (by omega))
        · obtain ⟨y, a2, cs2, hy, ha, q3, ⟨rfl, _⟩, q4, _⟩ := S.out.elem HB.out j (by omega)
          cases ha
          have e1 := q4 (by decide)
          simp only [List.getElem?_cons_zero, Nat.mul_one] at e1
          have HY := Lib.hid hy
          have e2 : wr.cell? ⟨a1.block, a1.off + (j + 1), none⟩ = some (.int .i64 x) := by
            have h := e0
            unfold Addr.add at h
            rw [if_neg (by omega)] at h
            exact h
          have hw : wrap64 ((j : Int) + 1 - 1) = (j : Int) := by unfold wrap64; omega
          have hw4 : (IntKind.i64).wrap ((j : Int) + 1 - 1) = (j : Int) := by rw [IntKind.wrap_i64]; omega
          have hjp : (0 : Int) ≤ (j : Int) + 1 := by omega
          have hjq : (0 : Int) < (j : Int) + 1 := by omega
          have hjn : (j : Int) + 1 < (n : Int) := by omega
          have htn : ((j : Int) + 1).toNat = j + 1 := by omega
          have hj0 : (0 : Int) ≤ (j : Int) := by omega
          have hj1 : (j : Int) < (n : Int) := by omega
          clear q3 q4 hy
          go_wp2_with fail
          refine wp_region_quiet_lit (by kernel_rfl) (by kernel_rfl) ?_
          repeat (any_goals (first | go_big_quiet_step (fail) | quiet_step (fail) | (refine wpQuiet_step (fun K hK => ?_); go_simp; split <;> (refine hK _ ?_; clear hK K))))
          all_goals (refine wpQuiet_nil ?_; intro _ hw'; obtain ⟨nq, hw''⟩ := hw'; subst hw'')
          all_goals go_wp2_with fail
          all_goals first
            | (go_ret
               refine ⟨ret_f (fun hM => ?_), below_drewN HB.out _⟩
               obtain ⟨z1, z2, z3, z4⟩ := hM.1 x (List.mem_of_getElem? HX.out)
               have hr := hM.2 j y x HY.out HX.out; first | omega | (simp_all; done) | (simp_all; omega))
            | (go_roundw
               case measure => simp [intOf]; omega
               case rel =>
                 first
                   | refine ⟨j + 1 + 1, ?_, ?_, ?_, ?_, ?_⟩
                   | ((repeat apply Exists.intro); refine ⟨⟨j + 1 + 1, ?_, ?_, ?_, ?_, ?_⟩, rfl⟩)
                 · omega
                 · go_num
                 · exact below_drewN HB.out _
                 · intro i z hi hz
                   by_cases e : i = j + 1
                   · subst e
                     rw [HX.out] at hz; cases hz
                     refine ⟨?_, ?_, ?_, ?_⟩ <;> first | omega | (simp_all; done) | (simp_all; omega) | (left; omega) | (right; rfl)
                   · exact I.out i z (by omega) hz
                 · intro i a b hi ha hb; by_cases e : i = j; (subst e; rw [HY.out] at ha; rw [HX.out] at hb; cases ha; cases hb; omega); exact J.out i a b (by omega) ha hb)
      · obtain rfl : n = k := by omega
        have hall : rowMay most false xs := ⟨fun x hx => by
          obtain ⟨i, hi, rfl⟩ := List.getElem_of_mem hx
          exact I.out i _ (by have := L.out; omega) (List.getElem?_eq_getElem hi), fun i a b ha hb => J.out i a b (by have := (List.getElem?_eq_some_iff.1 hb).1; have := L.out; omega) ha hb⟩
        have HALL := Lib.hid hall
        clear hall
        go_wp2_with fail
        go_ret
        exact ⟨ret_t HALL.out, HB.out⟩
  | true =>
    go_enter Tryz.func48, Tryz.ntmps48
    go_wp2_with fail
    go_loopw [10] (fun b wr => ∃ k : Nat, k ≤ n ∧ b = .int .i64 (k : Nat) ∧ Hid (Below w.heap.size w wr) ∧ Hid (∀ (i : Nat) x, i < k → xs[i]? = some x → rowOne most true x) ∧ Hid (risesTo xs k)) (fun b _ => n - (intOf b).toNat)
    case atStart => exact ⟨0, Nat.zero_le _, rfl, Below.refl _ _, fun i x h => absurd h (Nat.not_lt_zero _), fun i a b h => absurd h (by omega)⟩
    case round =>
      obtain ⟨k, hk, rfl, HB, I, J⟩ := hrel
      by_cases hlt : k < n
      · have hlt' : (k : Int) < (n : Int) := by omega
        obtain ⟨x, a1, cs1, hx, rfl, q1, ⟨rfl, _⟩, q0, _⟩ := S.out.elem HB.out k hlt
        have e0 := q0 (by decide)
        simp only [List.getElem?_cons_zero, Nat.mul_one] at e0
        have HX := Lib.hid hx
        clear q0 q1 hx
        rcases k with _ | j
        · rw [add_none] at e0
          go_wp2_with fail
          refine wp_region_quiet_lit (by kernel_rfl) (by kernel_rfl) ?_
          repeat (any_goals (first | go_big_quiet_step (fail) | quiet_step (fail) | (refine wpQuiet_step (fun K hK => ?_); go_simp; split <;> (refine hK _ ?_; clear hK K))))
          all_goals (refine wpQuiet_nil ?_; intro _ hw'; obtain ⟨nq, hw''⟩ := hw'; subst hw'')
          all_goals go_wp2_with fail
          all_goals first
            | (go_ret
               refine ⟨ret_f (fun hM => ?_), below_drewN HB.out _⟩
               obtain ⟨z1, z2, z3, z4⟩ := hM.1 x (List.mem_of_getElem? HX.out)
               first | omega | (simp_all; done) | (simp_all; omega))
            | (go_roundw
               case measure => simp [intOf]; omega
               case rel =>
                 first
                   | refine ⟨1, ?_, ?_, ?_, ?_, ?_⟩
                   | ((repeat apply Exists.intro); refine ⟨⟨1, ?_, ?_, ?_, ?_, ?_⟩, rfl⟩)
                 · omega
                 · go_num
                 · exact below_drewN HB.out _
                 · intro i z hi hz
                   by_cases e : i = 0
                   · subst e
                     rw [HX.out] at hz; cases hz
                     refine ⟨?_, ?_, ?_, ?_⟩ <;> first | omega | (simp_all; done) | (simp_all; omega) | (left; omega) | (right; rfl)
                   · exact I.out i z (by omega) hz
                 · intro i a b hi ha hb; exact absurd hi (by omega))
        · obtain ⟨y, a2, cs2, hy, ha, q3, ⟨rfl, _⟩, q4, _⟩ := S.out.elem HB.out j (by omega)
          cases ha
          have e1 := q4 (by decide)
          simp only [List.getElem?_cons_zero, Nat.mul_one] at e1
          have HY := Lib.hid hy
          have e2 : wr.cell? ⟨a1.block, a1.off + (j + 1), none⟩ = some (.int .i64 x) := by
            have h := e0
            unfold Addr.add at h
            rw [if_neg (by omega)] at h
            exact h
          have hw : wrap64 ((j : Int) + 1 - 1) = (j : Int) := by unfold wrap64; omega
          have hw4 : (IntKind.i64).wrap ((j : Int) + 1 - 1) = (j : Int) := by rw [IntKind.wrap_i64]; omega
          have hjp : (0 : Int) ≤ (j : Int) + 1 := by omega
          have hjq : (0 : Int) < (j : Int) + 1 := by omega
          have hjn : (j : Int) + 1 < (n : Int) := by omega
          have htn : ((j : Int) + 1).toNat = j + 1 := by omega
          have hj0 : (0 : Int) ≤ (j : Int) := by omega
          have hj1 : (j : Int) < (n : Int) := by omega
          clear q3 q4 hy
          go_wp2_with fail
          refine wp_region_quiet_lit (by kernel_rfl) (by kernel_rfl) ?_
          repeat (any_goals (first | go_big_quiet_step (fail) | quiet_step (fail) | (refine wpQuiet_step (fun K hK => ?_); go_simp; split <;> (refine hK _ ?_; clear hK K))))
          all_goals (refine wpQuiet_nil ?_; intro _ hw'; obtain ⟨nq, hw''⟩ := hw'; subst hw'')
          all_goals go_wp2_with fail
          all_goals first
            | (go_ret
               refine ⟨ret_f (fun hM => ?_), below_drewN HB.out _⟩
               obtain ⟨z1, z2, z3, z4⟩ := hM.1 x (List.mem_of_getElem? HX.out)
               have hr := hM.2 j y x HY.out HX.out; first | omega | (simp_all; done) | (simp_all; omega))
            | (go_roundw
               case measure => simp [intOf]; omega
               case rel =>
                 first
                   | refine ⟨j + 1 + 1, ?_, ?_, ?_, ?_, ?_⟩
                   | ((repeat apply Exists.intro); refine ⟨⟨j + 1 + 1, ?_, ?_, ?_, ?_, ?_⟩, rfl⟩)
                 · omega
                 · go_num
                 · exact below_drewN HB.out _
                 · intro i z hi hz
                   by_cases e : i = j + 1
                   · subst e
                     rw [HX.out] at hz; cases hz
                     refine ⟨?_, ?_, ?_, ?_⟩ <;> first | omega | (simp_all; done) | (simp_all; omega) | (left; omega) | (right; rfl)
                   · exact I.out i z (by omega) hz
                 · intro i a b hi ha hb; by_cases e : i = j; (subst e; rw [HY.out] at ha; rw [HX.out] at hb; cases ha; cases hb; omega); exact J.out i a b (by omega) ha hb)
      · obtain rfl : n = k := by omega
        have hall : rowMay most true xs := ⟨fun x hx => by
          obtain ⟨i, hi, rfl⟩ := List.getElem_of_mem hx
          exact I.out i _ (by have := L.out; omega) (List.getElem?_eq_getElem hi), fun i a b ha hb => J.out i a b (by have := (List.getElem?_eq_some_iff.1 hb).1; have := L.out; omega) ha hb⟩
        have HALL := Lib.hid hall
        clear hall
        go_wp2_with fail
        go_ret
        exact ⟨ret_t HALL.out, HB.out⟩
end Go.Proofs.YtcleicjgeflbnaaGreat
