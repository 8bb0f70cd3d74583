/- The document's row. Condition: at most ten thousand numbers. The document's days. Condition: at most ten thousand days and months, and the frequency is at most 4. The document's May. Condition: its rows have at most ten thousand places. -/
import Derived.Test.YtechgcjdigpglaaGreatR7
namespace Go.Proofs.YtechgcjdigpglaaGreat
open Go.RowKit Go.ChangeShapes Go.WideShapes Go.Deep
set_option linter.all false

theorem add_none (a : Addr) : a.add 0 = a := by simp [Addr.add]
set_option maxHeartbeats 8000000 in
set_option maxRecDepth 100000 in
theorem refRow_any (o : Option Addr) (n c : Nat) (xs : List Int) (most : Nat) (below : Bool) (w : World) (h : Row w 1 (rI .i64) (.slice o n c) xs) (hn : n ≤ 10000) (hm : most ≤ 10000) :
    Calls Tryz.prog 85 #[.slice o n c, .int .i64 (most : Nat), .bool below] w fun e w' => e = .returned (.bool (dec (rowMay most below xs))) ∧ Below w.heap.size w w' := by
  have S := Lib.hid h
  have L := Lib.hid h.len
  clear h
  have hneg : wrap64 (-(most : Int)) = -(most : Int) := by unfold wrap64; omega
  have hneg2 : (IntKind.i64).wrap (-(most : Int)) = -(most : Int) := by rw [IntKind.wrap_i64]; omega
  have hnot : ∀ (x : Bool) (w : World), (Op.unary .not (.bool x)).run Tryz.prog w = .ok (.bool (!x)) w := fun _ _ => rfl
  cases below with
  | false =>
    go_enter Tryz.func85, Tryz.ntmps85
    go_wp2_with fail
    go_loopw [10] (fun b wr => ∃ k : Nat, k ≤ n ∧ b = .int .i64 (k : Nat) ∧ Hid (Below w.heap.size w wr) ∧ Hid (∀ (i : Nat) x, i < k → xs[i]? = some x → rowOne most false x) ∧ Hid (risesTo xs k)) (fun b _ => n - (intOf b).toNat)
    case atStart => exact ⟨0, Nat.zero_le _, rfl, Below.refl _ _, fun i x h => absurd h (Nat.not_lt_zero _), fun i a b h => absurd h (by omega)⟩
    case round =>
      obtain ⟨k, hk, rfl, HB, I, J⟩ := hrel
      by_cases hlt : k < n
      · have hlt' : (k : Int) < (n : Int) := by omega
        obtain ⟨x, a1, cs1, hx, rfl, q1, ⟨rfl, _⟩, q0, _⟩ := S.out.elem HB.out k hlt
        have e0 := q0 (by decide)
        simp only [List.getElem?_cons_zero, Nat.mul_one] at e0
        have HX := Lib.hid hx
        clear q0 q1 hx
        rcases k with _ | j
        · rw [add_none] at e0
          go_wp2_with fail
          refine wp_region_quiet_lit (by kernel_rfl) (by kernel_rfl) ?_
          repeat (any_goals (first | go_big_quiet_step (fail) | quiet_step (fail) | (refine wpQuiet_step (fun K hK => ?_); go_simp; split <;> (refine hK _ ?_; clear hK K))))
          all_goals (refine wpQuiet_nil ?_; intro _ hw'; obtain ⟨nq, hw''⟩ := hw'; subst hw'')
          all_goals go_wp2_with fail
          all_goals first
            | (go_ret
               refine ⟨ret_f (fun hM => ?_), below_drewN HB.out _⟩
               obtain ⟨z1, z2, z3, z4⟩ := hM.1 x (List.mem_of_getElem? HX.out)
               first | omega | (simp_all; done) | (simp_all; omega))
            | (go_roundw
               case measure => simp [intOf]; omega
               case rel =>
                 first
                   | refine ⟨1, ?_, ?_, ?_, ?_, ?_⟩
                   | ((repeat apply Exists.intro); refine ⟨⟨1, ?_, ?_, ?_, ?_, ?_⟩, rfl⟩)
                 · omega
                 · go_num
                 · exact below_drewN HB.out _
                 · intro i z hi hz
                   by_cases e : i = 0
                   · subst e
                     rw [HX.out] at hz; cases hz
                     refine ⟨?_, ?_, ?_, ?_⟩ <;> first | omega | (simp_all; done) | (simp_all; omega) | (left; omega) | (right; rfl)
                   · exact I.out i z (by omega) hz
                 · intro i a b hi ha hb; exact absurd hi (by omega))
        · obtain ⟨y, a2, cs2, hy, ha, q3, ⟨rfl, _⟩, q4, _⟩ := S.out.elem HB.out j (by omega)
          cases ha
          have e1 := q4 (by decide)
          simp only [List.getElem?_cons_zero, Nat.mul_one] at e1
          have HY := Lib.hid hy
          have e2 : wr.cell? ⟨a1.block, a1.off + (j + 1), none⟩ = some (.int .i64 x) := by
            have h := e0
            unfold Addr.add at h
            rw [if_neg (by omega)] at h
            exact h
          have hw : wrap64 ((j : Int) + 1 - 1) = (j : Int) := by unfold wrap64; omega
          have hw4 : (IntKind.i64).wrap ((j : Int) + 1 - 1) = (j : Int) := by rw [IntKind.wrap_i64]; omega
          have hjp : (0 : Int) ≤ (j : Int) + 1 := by omega
          have hjq : (0 : Int) < (j : Int) + 1 := by omega
          have hjn : (j : Int) + 1 < (n : Int) := by omega
          have htn : ((j : Int) + 1).toNat = j + 1 := by omega
          have hj0 : (0 : Int) ≤ (j : Int) := by omega
          have hj1 : (j : Int) < (n : Int) := by omega
          clear q3 q4 hy
          go_wp2_with fail
          refine wp_region_quiet_lit (by kernel_rfl) (by kernel_rfl) ?_
          repeat (any_goals (first | go_big_quiet_step (fail) | quiet_step (fail) | (refine wpQuiet_step (fun K hK => ?_); go_simp; split <;> (refine hK _ ?_; clear hK K))))
          all_goals (refine wpQuiet_nil ?_; intro _ hw'; obtain ⟨nq, hw''⟩ := hw'; subst hw'')
          all_goals go_wp2_with fail
          all_goals first
            | (go_ret
               refine ⟨ret_f (fun hM => ?_), below_drewN HB.out _⟩
               obtain ⟨z1, z2, z3, z4⟩ := hM.1 x (List.mem_of_getElem? HX.out)
               have hr := hM.2 j y x HY.out HX.out; first | omega | (simp_all; done) | (simp_all; omega))
            | (go_roundw
               case measure => simp [intOf]; omega
               case rel =>
                 first
                   | refine ⟨j + 1 + 1, ?_, ?_, ?_, ?_, ?_⟩
                   | ((repeat apply Exists.intro); refine ⟨⟨j + 1 + 1, ?_, ?_, ?_, ?_, ?_⟩, rfl⟩)
                 · omega
                 · go_num
                 · exact below_drewN HB.out _
                 · intro i z hi hz
                   by_cases e : i = j + 1
                   · subst e
                     rw [HX.out] at hz; cases hz
                     refine ⟨?_, ?_, ?_, ?_⟩ <;> first | omega | (simp_all; done) | (simp_all; omega) | (left; omega) | (right; rfl)
                   · exact I.out i z (by omega) hz
                 · intro i a b hi ha hb; by_cases e : i = j; (subst e; rw [HY.out] at ha; rw [HX.out] at hb; cases ha; cases hb; omega); exact J.out i a b (by omega) ha hb)
      · obtain rfl : n = k := by omega
        have hall : rowMay most false xs := ⟨fun x hx => by
          obtain ⟨i, hi, rfl⟩ := List.getElem_of_mem hx
          exact I.out i _ (by have := L.out; omega) (List.getElem?_eq_getElem hi), fun i a b ha hb => J.out i a b (by have := (List.getElem?_eq_some_iff.1 hb).1; have := L.out; omega) ha hb⟩
        have HALL := Lib.hid hall
        clear hall
        go_wp2_with fail
        go_ret
        exact ⟨ret_t HALL.out, HB.out⟩
  | true =>
    go_enter Tryz.func85, Tryz.ntmps85
    go_wp2_with fail
    go_loopw [10] (fun b wr => ∃ k : Nat, k ≤ n ∧ b = .int .i64 (k : Nat) ∧ Hid (Below w.heap.size w wr) ∧ Hid (∀ (i : Nat) x, i < k → xs[i]? = some x → rowOne most true x) ∧ Hid (risesTo xs k)) (fun b _ => n - (intOf b).toNat)
    case atStart => exact ⟨0, Nat.zero_le _, rfl, Below.refl _ _, fun i x h => absurd h (Nat.not_lt_zero _), fun i a b h => absurd h (by omega)⟩
    case round =>
      obtain ⟨k, hk, rfl, HB, I, J⟩ := hrel
      by_cases hlt : k < n
      · have hlt' : (k : Int) < (n : Int) := by omega
        obtain ⟨x, a1, cs1, hx, rfl, q1, ⟨rfl, _⟩, q0, _⟩ := S.out.elem HB.out k hlt
        have e0 := q0 (by decide)
        simp only [List.getElem?_cons_zero, Nat.mul_one] at e0
        have HX := Lib.hid hx
        clear q0 q1 hx
        rcases k with _ | j
        · rw [add_none] at e0
          go_wp2_with fail
          refine wp_region_quiet_lit (by kernel_rfl) (by kernel_rfl) ?_
          repeat (any_goals (first | go_big_quiet_step (fail) | quiet_step (fail) | (refine wpQuiet_step (fun K hK => ?_); go_simp; split <;> (refine hK _ ?_; clear hK K))))
          all_goals (refine wpQuiet_nil ?_; intro _ hw'; obtain ⟨nq, hw''⟩ := hw'; subst hw'')
          all_goals go_wp2_with fail
          all_goals first
            | (go_ret
               refine ⟨ret_f (fun hM => ?_), below_drewN HB.out _⟩
               obtain ⟨z1, z2, z3, z4⟩ := hM.1 x (List.mem_of_getElem? HX.out)
               first | omega | (simp_all; done) | (simp_all; omega))
            | (go_roundw
               case measure => simp [intOf]; omega
               case rel =>
                 first
                   | refine ⟨1, ?_, ?_, ?_, ?_, ?_⟩
                   | ((repeat apply Exists.intro); refine ⟨⟨1, ?_, ?_, ?_, ?_, ?_⟩, rfl⟩)
                 · omega
                 · go_num
                 · exact below_drewN HB.out _
                 · intro i z hi hz
                   by_cases e : i = 0
                   · subst e
                     rw [HX.out] at hz; cases hz
                     refine ⟨?_, ?_, ?_, ?_⟩ <;> first | omega | (simp_all; done) | (simp_all; omega) | (left; omega) | (right; rfl)
                   · exact I.out i z (by omega) hz
                 · intro i a b hi ha hb; exact absurd hi (by omega))
        · obtain ⟨y, a2, cs2, hy, ha, q3, ⟨rfl, _⟩, q4, _⟩ := S.out.elem HB.out j (by omega)
          cases ha
          have e1 := q4 (by decide)
          simp only [List.getElem?_cons_zero, Nat.mul_one] at e1
          have HY := Lib.hid hy
          have e2 : wr.cell? ⟨a1.block, a1.off + (j + 1), none⟩ = some (.int .i64 x) := by
            have h := e0
            unfold Addr.add at h
            rw [if_neg (by omega)] at h
            exact h
          have hw : wrap64 ((j : Int) + 1 - 1) = (j : Int) := by unfold wrap64; omega
          have hw4 : (IntKind.i64).wrap ((j : Int) + 1 - 1) = (j : Int) := by rw [IntKind.wrap_i64]; omega
          have hjp : (0 : Int) ≤ (j : Int) + 1 := by omega
          have hjq : (0 : Int) < (j : Int) + 1 := by omega
          have hjn : (j : Int) + 1 < (n : Int) := by omega
          have htn : ((j : Int) + 1).toNat = j + 1 := by omega
          have hj0 : (0 : Int) ≤ (j : Int) := by omega
          have hj1 : (j : Int) < (n : Int) := by omega
          clear q3 q4 hy
          go_wp2_with fail
          refine wp_region_quiet_lit (by kernel_rfl) (by kernel_rfl) ?_
          repeat (any_goals (first | go_big_quiet_step (fail) | quiet_step (fail) | (refine wpQuiet_step (fun K hK => ?_); go_simp; split <;> (refine hK _ ?_; clear hK K))))
          all_goals (refine wpQuiet_nil ?_; intro _ hw'; obtain ⟨nq, hw''⟩ := hw'; subst hw'')
          all_goals go_wp2_with fail
          all_goals first
            | (go_ret
               refine ⟨ret_f (fun hM => ?_), below_drewN HB.out _⟩
               obtain ⟨z1, z2, z3, z4⟩ := hM.1 x (List.mem_of_getElem? HX.out)
               have hr := hM.2 j y x HY.out HX.out; first | omega | (simp_all; done) | (simp_all; omega))
            | (go_roundw
               case measure => simp [intOf]; omega
               case rel =>
                 first
                   | refine ⟨j + 1 + 1, ?_, ?_, ?_, ?_, ?_⟩
                   | ((repeat apply Exists.intro); refine ⟨⟨j + 1 + 1, ?_, ?_, ?_, ?_, ?_⟩, rfl⟩)
                 · omega
                 · go_num
                 · exact below_drewN HB.out _
                 · intro i z hi hz
                   by_cases e : i = j + 1
                   · subst e
                     rw [HX.out] at hz; cases hz
                     refine ⟨?_, ?_, ?_, ?_⟩ <;> first | omega | (simp_all; done) | (simp_all; omega) | (left; omega) | (right; rfl)
                   · exact I.out i z (by omega) hz
                 · intro i a b hi ha hb; by_cases e : i = j; (subst e; rw [HY.out] at ha; rw [HX.out] at hb; cases ha; cases hb; omega); exact J.out i a b (by omega) ha hb)
      · obtain rfl : n = k := by omega
        have hall : rowMay most true xs := ⟨fun x hx => by
          obtain ⟨i, hi, rfl⟩ := List.getElem_of_mem hx
          exact I.out i _ (by have := L.out; omega) (List.getElem?_eq_getElem hi), fun i a b ha hb => J.out i a b (by have := (List.getElem?_eq_some_iff.1 hb).1; have := L.out; omega) ha hb⟩
        have HALL := Lib.hid hall
        clear hall
        go_wp2_with fail
        go_ret
        exact ⟨ret_t HALL.out, HB.out⟩
end Go.Proofs.YtechgcjdigpglaaGreat
namespace Go.Proofs.YtechgcjdigpglaaGreat
open Go.RowKit Go.ChangeShapes Go.WideShapes Go.Deep
set_option linter.all false

theorem day_cases (r : RuleD) (v : DayND) (nm : Nat) (L : r.byMonth.length = nm) (hf : r.freq ≤ 4) (hv : 0 ≤ v.day ∧ v.day ≤ 6 ∧ -5 ≤ v.n ∧ v.n ≤ 5) :
    ((v.n != 0) = false ∧ Hid (dayOne r v)) ∨ ((v.n != 0) = true ∧ decide (r.freq < 3) = false ∧ (r.freq == 4) = false ∧ Hid (dayOne r v)) ∨ ((v.n != 0) = true ∧ decide (r.freq < 3) = false ∧ (r.freq == 4) = true ∧ ((nm : Int) == 0) = false ∧ Hid (dayOne r v)) ∨ ((v.n != 0) = true ∧ decide (r.freq < 3) = true ∧ Hid (¬ dayOne r v)) ∨ ((v.n != 0) = true ∧ decide (r.freq < 3) = false ∧ (r.freq == 4) = true ∧ ((nm : Int) == 0) = true ∧ Hid (¬ dayOne r v)) := by
  have key : dayOne r v ↔ (v.n = 0 ∨ nthMay r) := ⟨fun h => h.2.2.2.2, fun h => ⟨hv.1, hv.2.1, hv.2.2.1, hv.2.2.2, h⟩⟩
  have kn : nthMay r ↔ r.freq = 3 ∨ r.freq = 4 ∧ 0 < nm := by rw [← L]; rfl
  rw [kn] at key
  by_cases h0 : v.n = 0
  · exact .inl ⟨by simp [h0], key.2 (.inl h0)⟩
  · have b0 : (v.n != 0) = true := by simp [h0]
    by_cases h1 : r.freq < 3
    · exact .inr (.inr (.inr (.inl ⟨b0, decide_eq_true h1, fun h => by have := key.1 h; omega⟩)))
    · by_cases h2 : r.freq = 4
      · by_cases h3 : nm = 0
        · exact .inr (.inr (.inr (.inr ⟨b0, decide_eq_false h1, by simp [h2], by rw [h3]; rfl, fun h => by have := key.1 h; omega⟩)))
        · exact .inr (.inr (.inl ⟨b0, decide_eq_false h1, by simp [h2], by rw [beq_eq_false_iff_ne]; omega, key.2 (by omega)⟩))
      · exact .inr (.inl ⟨b0, decide_eq_false h1, by rw [beq_eq_false_iff_ne]; exact h2, key.2 (by omega)⟩)

theorem dlt_cases (u v : DayND) : (decide (v.n < u.n) = false ∧ (u.n == v.n) = true ∧ decide (v.day ≤ u.day) = false ∧ Hid (dlt u v)) ∨ (decide (v.n < u.n) = false ∧ (u.n == v.n) = false ∧ Hid (dlt u v)) ∨
    (decide (v.n < u.n) = true ∧ Hid (¬ dlt u v)) ∨ (decide (v.n < u.n) = false ∧ (u.n == v.n) = true ∧ decide (v.day ≤ u.day) = true ∧ Hid (¬ dlt u v)) := by
  by_cases h1 : v.n < u.n
  · exact .inr (.inr (.inl ⟨decide_eq_true h1, fun h => by unfold dlt at h; omega⟩))
  · by_cases h2 : u.n = v.n
    · have b : (u.n == v.n) = true := by simp [h2]
      by_cases h3 : v.day ≤ u.day
      · exact .inr (.inr (.inr ⟨decide_eq_false h1, b, decide_eq_true h3, fun h => by unfold dlt at h; omega⟩))
      · exact .inl ⟨decide_eq_false h1, b, decide_eq_false h3, .inr ⟨h2, by omega⟩⟩
    · exact .inr (.inl ⟨decide_eq_false h1, by rw [beq_eq_false_iff_ne]; exact h2, .inl (by omega)⟩)

set_option maxHeartbeats 16000000 in
set_option maxRecDepth 100000 in
theorem refDays_any (cs : List Value) (r : RuleD) (w : World) (h : rRule w cs r) (hl : r.byDay.length ≤ 10000) (hlm : r.byMonth.length ≤ 10000) (hf : r.freq ≤ 4) :
    Calls Tryz.prog 86 #[.agg cs.toArray] w fun e w' => e = .returned (.bool (dec (daysMay r))) ∧ Below w.heap.size w w' := by
  obtain ⟨m, d, y, p, rfl, -, -, -, -, -, hm, ⟨od, nd, cd, rfl, -⟩, hy, ⟨op, np, cp, rfl, -⟩⟩ := h
  obtain ⟨om, nm, cm, rfl, lm, -, -, -⟩ := hm.open
  obtain ⟨oy, ny, cy, rfl, ly, -, -, RY⟩ := hy.open
  have S := Lib.hid RY
  have L := Lib.hid ly
  have hny : ny ≤ 10000 := by omega
  have hnm : nm ≤ 10000 := by omega
  have HB := Lib.hid (show Below w.heap.size w (w.alloc (.cells #[.int .i64 r.freq, .int .i64 r.interval, .int .i64 r.count, .int .i64 r.until_, .slice om nm cm, .slice od nd cd, .slice oy ny cy, .slice op np cp, .int .i64 r.start] 28)) from (Below.refl _ _).alloc (Nat.le_refl _) _)
  have PC := Lib.hid (fun (v : DayND) hv => day_cases r v nm lm hf hv)
  clear hm hy RY ly lm hl hlm hf
  go_enter Tryz.func86, Tryz.ntmps86
  go_wp2_with fail
  go_loopw [8] (fun b wr => ∃ k : Nat, k ≤ ny ∧ b = .int .i64 (k : Nat) ∧ (∀ j, World.cell? wr ⟨w.heap.size, j, none⟩ = World.cell? (w.alloc (.cells #[.int .i64 r.freq, .int .i64 r.interval, .int .i64 r.count, .int .i64 r.until_, .slice om nm cm, .slice od nd cd, .slice oy ny cy, .slice op np cp, .int .i64 r.start] 28)) ⟨w.heap.size, j, none⟩) ∧ w.heap.size < wr.heap.size ∧ Hid (Below w.heap.size w wr) ∧ Hid (∀ (i : Nat) x, i < k → r.byDay[i]? = some x → dayOne r x) ∧ Hid (risesDayTo r.byDay k)) (fun b _ => ny - (intOf b).toNat)
  case atStart => exact ⟨0, Nat.zero_le _, rfl, fun _ => rfl, by simp, HB.out, fun i x h => absurd h (Nat.not_lt_zero _), fun i a b h => absurd h (by omega)⟩
  case round =>
    obtain ⟨k, hk, rfl, kA, hz, HBw, I, J⟩ := hrel
    obtain ⟨wl, rfl⟩ : ∃ x, x = wr := ⟨_, rfl⟩
    by_cases hlt : k < ny
    · have hlt' : (k : Int) < (ny : Int) := by omega
      obtain ⟨v, a1, cs1, hx, rfl, q1, ⟨rfl, _, _⟩, q0, q0'⟩ := S.out.elem HBw.out k hlt
      have e0 := q0 (by decide)
      have e1 := q0' 1 (by decide) (by decide)
      simp only [List.getElem?_cons_zero, List.getElem?_cons_succ] at e0 e1
      have HX := Lib.hid hx
      have HBo := Lib.hid (fun (o : Obj) => HBw.out.alloc (Nat.le_of_lt hz) o)
      clear q0 q0' q1 hx
      by_cases hval : 0 ≤ v.day ∧ v.day ≤ 6 ∧ -5 ≤ v.n ∧ v.n ≤ 5
      · have hv1 := decide_eq_false (show ¬ v.day < 0 by omega)
        have hv2 := decide_eq_false (show ¬ 6 < v.day by omega)
        have hv3 := decide_eq_false (show ¬ v.n < -5 by omega)
        have hv4 := decide_eq_false (show ¬ 5 < v.n by omega)
        have hpc := PC.out v hval
        clear hval
        rcases k with _ | j
        · simp only [Nat.zero_mul, add_none] at e0 e1
          rcases hpc with ⟨p1, OK⟩ | ⟨p1, p2, p3, OK⟩ | ⟨p1, p2, p3, p4, OK⟩ | ⟨p1, p2, OK⟩ | ⟨p1, p2, p3, p4, OK⟩
          case inr.inr.inr.inl =>
            go_wp2_with fail
            go_ret
            exact ⟨ret_f (fun h => OK.out (h.1 v (List.mem_of_getElem? HX.out))), HBo.out _⟩
          case inr.inr.inr.inr =>
            go_wp2_with fail
            go_ret
            exact ⟨ret_f (fun h => OK.out (h.1 v (List.mem_of_getElem? HX.out))), HBo.out _⟩
          all_goals
            go_wp2_with fail
            go_quiet (fail)
            go_wp2_with fail
            go_roundw
            case measure => simp [intOf]; omega
            case rel =>
              first
                | refine ⟨0 + 1, ?_, ?_, ?_, ?_, ?_, ?_, ?_⟩
                | ((repeat apply Exists.intro); refine ⟨⟨0 + 1, ?_, ?_, ?_, ?_, ?_, ?_, ?_⟩, rfl⟩)
              · omega
              · go_num
              · intro j'; exact (World.cell?_alloc_lt _ _ _ hz).trans (kA j')
              · simp; omega
              · first | exact HBo.out _ | exact below_drewN (HBo.out _) _ | exact (HBo.out _).drew
              · intro i z hi hz'
                by_cases e : i = 0
                · subst e
                  rw [HX.out] at hz'; cases hz'
                  exact OK.out
                · exact I.out i z (by omega) hz'
              · intro i a b hi ha hb
                exact absurd hi (by omega)
        · obtain ⟨u, a2, cs2, hu, ha, q1, ⟨rfl, _, _⟩, q0, q0'⟩ := S.out.elem HBw.out j (by omega)
          cases ha
          have g0 := q0 (by decide)
          have g1 := q0' 1 (by decide) (by decide)
          simp only [List.getElem?_cons_zero, List.getElem?_cons_succ] at g0 g1
          have HU := Lib.hid hu
          have g0' : ∀ O, (wl.alloc O).cell? (a1.add (j * 2)) = some (.int .i64 u.n) := fun O => (World.cell?_alloc_lt _ _ _ (World.block_lt_of_cell? wl _ g0)).trans g0
          have g1' : ∀ O, (wl.alloc O).cell? ⟨(a1.add (j * 2)).block, (a1.add (j * 2)).off + 1, none⟩ = some (.int .i64 u.day) := fun O => (World.cell?_alloc_lt _ _ _ (World.block_lt_of_cell? wl _ g1)).trans g1
          have hw : wrap64 ((j : Int) + 1 - 1) = (j : Int) := by unfold wrap64; omega
          have hw4 : (IntKind.i64).wrap ((j : Int) + 1 - 1) = (j : Int) := by rw [IntKind.wrap_i64]; omega
          have hjp : (0 : Int) ≤ (j : Int) + 1 := by omega
          have hjq : (0 : Int) < (j : Int) + 1 := by omega
          have hjn : (j : Int) + 1 < (ny : Int) := by omega
          have htn : ((j : Int) + 1).toNat = j + 1 := by omega
          have hj0 : (0 : Int) ≤ (j : Int) := by omega
          have hj1 : (j : Int) < (ny : Int) := by omega
          have hdc := dlt_cases u v
          clear q0 q0' q1 hu g0 g1
          rcases hpc with ⟨p1, OK⟩ | ⟨p1, p2, p3, OK⟩ | ⟨p1, p2, p3, p4, OK⟩ | ⟨p1, p2, OK⟩ | ⟨p1, p2, p3, p4, OK⟩
          case inr.inr.inr.inl =>
            clear hdc
            go_wp2_with fail
            go_ret
            exact ⟨ret_f (fun h => OK.out (h.1 v (List.mem_of_getElem? HX.out))), HBo.out _⟩
          case inr.inr.inr.inr =>
            clear hdc
            go_wp2_with fail
            go_ret
            exact ⟨ret_f (fun h => OK.out (h.1 v (List.mem_of_getElem? HX.out))), HBo.out _⟩
          all_goals
            rcases hdc with ⟨m1, m2, m3, M⟩ | ⟨m1, m2, M⟩ | ⟨m1, M⟩ | ⟨m1, m2, m3, M⟩
            case inr.inr.inl | inr.inr.inr =>
              go_wp2_with fail
              go_quiet (fail)
              go_wp2_with fail
              go_ret
              exact ⟨ret_f (fun h => M.out (h.2 j u v HU.out HX.out)), below_drewN (HBo.out _) _⟩
            all_goals
              go_wp2_with fail
              go_quiet (fail)
              go_wp2_with fail
              go_roundw
              case measure => simp [intOf]; omega
              case rel =>
                first
                  | refine ⟨(j + 1) + 1, ?_, ?_, ?_, ?_, ?_, ?_, ?_⟩
                  | ((repeat apply Exists.intro); refine ⟨⟨(j + 1) + 1, ?_, ?_, ?_, ?_, ?_, ?_, ?_⟩, rfl⟩)
                · omega
                · go_num
                · intro j'; exact (World.cell?_alloc_lt _ _ _ hz).trans (kA j')
                · simp; omega
                · first | exact HBo.out _ | exact below_drewN (HBo.out _) _ | exact (HBo.out _).drew
                · intro i z hi hz'
                  by_cases e : i = (j + 1)
                  · subst e
                    rw [HX.out] at hz'; cases hz'
                    exact OK.out
                  · exact I.out i z (by omega) hz'
                · intro i a b hi ha hb
                  by_cases e : i = j; (subst e; rw [HU.out] at ha; rw [HX.out] at hb; cases ha; cases hb; exact M.out); exact J.out i a b (by omega) ha hb
      · have NV := Lib.hid (show ¬ dayOne r v from fun h => hval ⟨h.1, h.2.1, h.2.2.1, h.2.2.2.1⟩)
        go_wp2_with fail
        all_goals first
          | (exfalso; omega)
          | (go_ret; exact ⟨ret_f (fun h => NV.out (h.1 v (List.mem_of_getElem? HX.out))), HBo.out _⟩)
    · obtain rfl : ny = k := by omega
      have hall : daysMay r := ⟨fun x hx => by
        obtain ⟨i, hi, rfl⟩ := List.getElem_of_mem hx
        exact I.out i _ (by have := L.out; omega) (List.getElem?_eq_getElem hi), fun i a b ha hb => J.out i a b (by have := (List.getElem?_eq_some_iff.1 hb).1; have := L.out; omega) ha hb⟩
      have HALL := Lib.hid hall
      clear hall
      go_wp2_with fail
      go_ret
      exact ⟨ret_t HALL.out, HBw.out⟩
end Go.Proofs.YtechgcjdigpglaaGreat
namespace Go.Proofs.YtechgcjdigpglaaGreat
open Go.RowKit Go.ChangeShapes Go.WideShapes Go.Deep
set_option linter.all false

theorem dec_ff (p : Prop) : dec p = false ↔ ¬ p := by unfold dec; simp
set_option maxHeartbeats 40000000 in
set_option maxRecDepth 100000 in
theorem refMay_any (cs : List Value) (r : RuleD) (w : World) (h : rRule w cs r) (hf : fewR r) :
    Calls Tryz.prog 48 #[.agg cs.toArray] w fun e w' => e = .returned (.bool (dec (mayR r))) ∧ Below w.heap.size w w' := by
  have SR := Lib.hid h
  obtain ⟨m, d, y, p, rfl, -, -, -, -, -, hm, hd, hy, hp⟩ := h
  obtain ⟨om, nm, cm, rfl, lm, -, -, RM⟩ := hm.open
  obtain ⟨od, nd, cd, rfl, ld, -, -, RD⟩ := hd.open
  obtain ⟨oy, ny, cy, rfl, ly, -, -, RY⟩ := hy.open
  obtain ⟨op, np, cp, rfl, lp, -, -, RP⟩ := hp.open
  have LM := Lib.hid lm; have LD := Lib.hid ld; have LY := Lib.hid ly; have LP := Lib.hid lp
  have hnm : nm ≤ 10000 := by have := hf.m; omega
  have hnd : nd ≤ 10000 := by have := hf.d; omega
  have hny : ny ≤ 10000 := by have := hf.y; omega
  have hnp : np ≤ 10000 := by have := hf.p; omega
  have HB := Lib.hid (show Below w.heap.size w (w.alloc (.cells #[.int .i64 r.freq, .int .i64 r.interval, .int .i64 r.count, .int .i64 r.until_, .slice om nm cm, .slice od nd cd, .slice oy ny cy, .slice op np cp, .int .i64 r.start] 28)) from (Below.refl _ _).alloc (Nat.le_refl _) _)
  have C6 := Lib.hid (fun (W : World) (hb : Below w.heap.size w W) => (show Calls Tryz.prog 85 #[.slice om nm cm, .int .i64 12, .bool false] W (fun e w' => e = .returned (.bool (dec (rowMay 12 false r.byMonth))) ∧ Below W.heap.size W w') from refRow_any om nm cm r.byMonth 12 false W (RM.later' hb) hnm (by decide)))
  have C7 := Lib.hid (fun (W : World) (hb : Below w.heap.size w W) => (show Calls Tryz.prog 85 #[.slice od nd cd, .int .i64 31, .bool true] W (fun e w' => e = .returned (.bool (dec (rowMay 31 true r.byMonthDay))) ∧ Below W.heap.size W w') from refRow_any od nd cd r.byMonthDay 31 true W (RD.later' hb) hnd (by decide)))
  have C9 := Lib.hid (fun (W : World) (hb : Below w.heap.size w W) hfq => refDays_any _ r W (SR.out.later hb) hf.y hf.m hfq)
  have C10 := Lib.hid (fun (W : World) (hb : Below w.heap.size w W) => (show Calls Tryz.prog 85 #[.slice op np cp, .int .i64 366, .bool true] W (fun e w' => e = .returned (.bool (dec (rowMay 366 true r.bySetPos))) ∧ Below W.heap.size W w') from refRow_any op np cp r.bySetPos 366 true W (RP.later' hb) hnp (by decide)))
  clear hm hd hy hp RM RD RY RP lm ld ly lp hf hnm hnd hny hnp
  by_cases hu : r.until_ = -1
  · have u1 : (r.until_ != -1) = false := by simp [hu]
    have HU := Lib.hid hu
    clear hu
    go_enter Tryz.func48, Tryz.ntmps48
    try simp only [List.append_eq, List.cons_append, List.nil_append]
    go_wp2_with (first
      | (go_at_call 85; ((with_reducible refine (C6.out _ HB.out).mono ?_)); rintro e w1 ⟨rfl, hb1⟩; have kA1 : ∀ j, World.cell? w1 ⟨w.heap.size, j, none⟩ = World.cell? (w.alloc (.cells #[.int .i64 r.freq, .int .i64 r.interval, .int .i64 r.count, .int .i64 r.until_, .slice om nm cm, .slice od nd cd, .slice oy ny cy, .slice op np cp, .int .i64 r.start] 28)) ⟨w.heap.size, j, none⟩ := fun j => hb1.cell (by simp); have hz1 : w.heap.size < w1.heap.size := Nat.lt_of_lt_of_le (by simp) hb1.size; have HB1 := Lib.hid (below_call HB.out hb1); clear hb1)
      | (go_at_call 85; ((with_reducible refine (C7.out _ HB1.out).mono ?_)); rintro e w2 ⟨rfl, hb2⟩; have kA2 : ∀ j, World.cell? w2 ⟨w.heap.size, j, none⟩ = World.cell? (w.alloc (.cells #[.int .i64 r.freq, .int .i64 r.interval, .int .i64 r.count, .int .i64 r.until_, .slice om nm cm, .slice od nd cd, .slice oy ny cy, .slice op np cp, .int .i64 r.start] 28)) ⟨w.heap.size, j, none⟩ := fun j => (hb2.cell hz1).trans (kA1 j); have hz2 : w.heap.size < w2.heap.size := Nat.lt_of_lt_of_le hz1 hb2.size; have HB2 := Lib.hid (below_call HB1.out hb2); clear hb2 kA1 hz1)
      | (go_at_call 85; ((with_reducible refine (C10.out _ HB2.out).mono ?_)); rintro e w3 ⟨rfl, hb3⟩; have kA3 : ∀ j, World.cell? w3 ⟨w.heap.size, j, none⟩ = World.cell? (w.alloc (.cells #[.int .i64 r.freq, .int .i64 r.interval, .int .i64 r.count, .int .i64 r.until_, .slice om nm cm, .slice od nd cd, .slice oy ny cy, .slice op np cp, .int .i64 r.start] 28)) ⟨w.heap.size, j, none⟩ := fun j => (hb3.cell hz2).trans (kA2 j); have hz3 : w.heap.size < w3.heap.size := Nat.lt_of_lt_of_le hz2 hb3.size; have HB3 := Lib.hid (below_call HB2.out hb3); clear hb3 kA2 hz2)
      | (go_at_call 86; ((with_reducible refine (C9.out _ HB3.out (by omega)).mono ?_)); rintro e w4 ⟨rfl, hb4⟩; have kA4 : ∀ j, World.cell? w4 ⟨w.heap.size, j, none⟩ = World.cell? (w.alloc (.cells #[.int .i64 r.freq, .int .i64 r.interval, .int .i64 r.count, .int .i64 r.until_, .slice om nm cm, .slice od nd cd, .slice oy ny cy, .slice op np cp, .int .i64 r.start] 28)) ⟨w.heap.size, j, none⟩ := fun j => (hb4.cell hz3).trans (kA3 j); have hz4 : w.heap.size < w4.heap.size := Nat.lt_of_lt_of_le hz3 hb4.size; have HB4 := Lib.hid (below_call HB3.out hb4); clear hb4 kA3 hz3))
    all_goals go_ret
    all_goals refine ⟨ret_dec ?_, by first | exact HB4.out | exact HB3.out | exact HB2.out | exact HB1.out | exact HB.out⟩
    all_goals have e1 := LM.out
    all_goals have e2 := LD.out
    all_goals have e3 := LY.out
    all_goals have e4 := LP.out
    all_goals have e5 := HU.out
    all_goals unfold mayR
    all_goals simp only [dec_ff, decide_eq_true_eq, Bool.false_eq_true, false_iff, true_iff, dec_iff, Bool.not_eq_true', Bool.not_eq_eq_eq_not, Bool.not_false, Bool.not_true] at *
    all_goals first
      | (rintro ⟨q1, q2, q3, q4, q5, q6, q7, q8, q9, q10, q11, q12, q13⟩; unfold endsMay at q5; first | omega | contradiction | (simp_all; done) | (simp_all; omega))
      | (refine ⟨?_, ?_, ?_, ?_, ?_, ?_, ?_, ?_, ?_, ?_, ?_, ?_, ?_⟩ <;> first | assumption | omega | (unfold endsMay; omega) | (simp_all; done) | (simp_all; omega))
      | (constructor
         · intro hh
           simp only [Bool.or_eq_true, beq_iff_eq, decide_eq_true_eq] at hh
           refine ⟨?_, ?_, ?_, ?_, ?_, ?_, ?_, ?_, ?_, ?_, ?_, ?_, ?_⟩ <;> first | assumption | omega | (unfold endsMay; omega)
         · rintro ⟨q1, q2, q3, q4, q5, q6, q7, q8, q9, q10, q11, q12, q13⟩
           simp only [Bool.or_eq_true, beq_iff_eq, decide_eq_true_eq]
           omega)
  · have u1 : (r.until_ != -1) = true := by simp [hu]
    have HU := Lib.hid hu
    clear hu
    go_enter Tryz.func48, Tryz.ntmps48
    try simp only [List.append_eq, List.cons_append, List.nil_append]
    go_wp2_with (first
      | (go_at_call 85; ((with_reducible refine (C6.out _ HB.out).mono ?_)); rintro e w1 ⟨rfl, hb1⟩; have kA1 : ∀ j, World.cell? w1 ⟨w.heap.size, j, none⟩ = World.cell? (w.alloc (.cells #[.int .i64 r.freq, .int .i64 r.interval, .int .i64 r.count, .int .i64 r.until_, .slice om nm cm, .slice od nd cd, .slice oy ny cy, .slice op np cp, .int .i64 r.start] 28)) ⟨w.heap.size, j, none⟩ := fun j => hb1.cell (by simp); have hz1 : w.heap.size < w1.heap.size := Nat.lt_of_lt_of_le (by simp) hb1.size; have HB1 := Lib.hid (below_call HB.out hb1); clear hb1)
      | (go_at_call 85; ((with_reducible refine (C7.out _ HB1.out).mono ?_)); rintro e w2 ⟨rfl, hb2⟩; have kA2 : ∀ j, World.cell? w2 ⟨w.heap.size, j, none⟩ = World.cell? (w.alloc (.cells #[.int .i64 r.freq, .int .i64 r.interval, .int .i64 r.count, .int .i64 r.until_, .slice om nm cm, .slice od nd cd, .slice oy ny cy, .slice op np cp, .int .i64 r.start] 28)) ⟨w.heap.size, j, none⟩ := fun j => (hb2.cell hz1).trans (kA1 j); have hz2 : w.heap.size < w2.heap.size := Nat.lt_of_lt_of_le hz1 hb2.size; have HB2 := Lib.hid (below_call HB1.out hb2); clear hb2 kA1 hz1)
      | (go_at_call 85; ((with_reducible refine (C10.out _ HB2.out).mono ?_)); rintro e w3 ⟨rfl, hb3⟩; have kA3 : ∀ j, World.cell? w3 ⟨w.heap.size, j, none⟩ = World.cell? (w.alloc (.cells #[.int .i64 r.freq, .int .i64 r.interval, .int .i64 r.count, .int .i64 r.until_, .slice om nm cm, .slice od nd cd, .slice oy ny cy, .slice op np cp, .int .i64 r.start] 28)) ⟨w.heap.size, j, none⟩ := fun j => (hb3.cell hz2).trans (kA2 j); have hz3 : w.heap.size < w3.heap.size := Nat.lt_of_lt_of_le hz2 hb3.size; have HB3 := Lib.hid (below_call HB2.out hb3); clear hb3 kA2 hz2)
      | (go_at_call 86; ((with_reducible refine (C9.out _ HB3.out (by omega)).mono ?_)); rintro e w4 ⟨rfl, hb4⟩; have kA4 : ∀ j, World.cell? w4 ⟨w.heap.size, j, none⟩ = World.cell? (w.alloc (.cells #[.int .i64 r.freq, .int .i64 r.interval, .int .i64 r.count, .int .i64 r.until_, .slice om nm cm, .slice od nd cd, .slice oy ny cy, .slice op np cp, .int .i64 r.start] 28)) ⟨w.heap.size, j, none⟩ := fun j => (hb4.cell hz3).trans (kA3 j); have hz4 : w.heap.size < w4.heap.size := Nat.lt_of_lt_of_le hz3 hb4.size; have HB4 := Lib.hid (below_call HB3.out hb4); clear hb4 kA3 hz3))
    all_goals go_ret
    all_goals refine ⟨ret_dec ?_, by first | exact HB4.out | exact HB3.out | exact HB2.out | exact HB1.out | exact HB.out⟩
    all_goals have e1 := LM.out
    all_goals have e2 := LD.out
    all_goals have e3 := LY.out
    all_goals have e4 := LP.out
    all_goals have e5 := HU.out
    all_goals unfold mayR
    all_goals simp only [dec_ff, decide_eq_true_eq, Bool.false_eq_true, false_iff, true_iff, dec_iff, Bool.not_eq_true', Bool.not_eq_eq_eq_not, Bool.not_false, Bool.not_true] at *
    all_goals first
      | (rintro ⟨q1, q2, q3, q4, q5, q6, q7, q8, q9, q10, q11, q12, q13⟩; unfold endsMay at q5; first | omega | contradiction | (simp_all; done) | (simp_all; omega))
      | (refine ⟨?_, ?_, ?_, ?_, ?_, ?_, ?_, ?_, ?_, ?_, ?_, ?_, ?_⟩ <;> first | assumption | omega | (unfold endsMay; omega) | (simp_all; done) | (simp_all; omega))
      | (constructor
         · intro hh
           simp only [Bool.or_eq_true, beq_iff_eq, decide_eq_true_eq] at hh
           refine ⟨?_, ?_, ?_, ?_, ?_, ?_, ?_, ?_, ?_, ?_, ?_, ?_, ?_⟩ <;> first | assumption | omega | (unfold endsMay; omega)
         · rintro ⟨q1, q2, q3, q4, q5, q6, q7, q8, q9, q10, q11, q12, q13⟩
           simp only [Bool.or_eq_true, beq_iff_eq, decide_eq_true_eq]
           omega)
end Go.Proofs.YtechgcjdigpglaaGreat
