/- recur.walker: usual and right. Conditions: the walker lies as walk laid it; the days are of the calendar. -/
import Derived.Test.YtechgcjdigpglaaGreatK5
import Derived.Deep.QuietTactic
import Derived.BigQuiet
namespace Go.Proofs.YtechgcjdigpglaaGreat
open Go.RowKit Go.ChangeShapes Go.WideShapes Go.Deep
set_option linter.all false

/-- A walker in memory. -/
structure Wk (r : RuleD) (s mi : Int) (b : Nat) (W : World) : Prop where
  lies : ∃ (om : Option Addr) (nm cm : Nat) (od : Option Addr) (nd cd : Nat) (oy : Option Addr) (ny cy : Nat) (op : Option Addr) (np cp : Nat), BxAt b #[.int .i64 r.freq, .int .i64 r.interval, .int .i64 r.count, .int .i64 r.until_, .slice om nm cm, .slice od nd cd, .slice oy ny cy, .slice op np cp, .int .i64 r.start, .int .i64 s, .int .i64 (dateY s), .int .i64 (dateM s), .int .i64 (dD s), .int .i64 mi] W ∧
    Row W 1 (rI .i64) (.slice om nm cm) r.byMonth ∧ Row W 1 (rI .i64) (.slice od nd cd) r.byMonthDay ∧ Row W 2 rDayN (.slice oy ny cy) r.byDay ∧ Row W 1 (rI .i64) (.slice op np cp) r.bySetPos
theorem Wk.later {r : RuleD} {s mi : Int} {b : Nat} {W W' : World} (h : Wk r s mi b W) (hb : Below W.heap.size W W') : Wk r s mi b W' := by
  obtain ⟨om, nm, cm, od, nd, cd, oy, ny, cy, op, np, cp, h1, h2, h3, h4, h5⟩ := h.lies
  exact ⟨om, nm, cm, od, nd, cd, oy, ny, cy, op, np, cp, h1.below hb, h2.later' hb, h3.later' hb, h4.later' hb, h5.later' hb⟩
theorem decf_iff {p : Prop} : dec p = false ↔ ¬ p := by unfold dec; simp
theorem nil_iff {α : Type} {xs : List α} {n : Nat} (h : xs.length = n) : xs = [] ↔ n = 0 := by
  rw [← h]; exact List.length_eq_zero_iff.symm

set_option maxHeartbeats 8000000 in
set_option maxRecDepth 100000 in
theorem usual_any (r : RuleD) (s mi : Int) (b : Nat) (n : Int) (w : World) (h : Wk r s mi b w) (hs0 : 0 ≤ s) (hs1 : s < 109938) (hn0 : 0 ≤ n) (hn1 : n < 109938) :
    Calls Tryz.prog 226 #[.pointer (some ⟨b, 0, none⟩), .int .i64 n, .agg #[.int .i64 (dateY n), .int .i64 (dateM n), .int .i64 (dD n)]] w fun e w' => e = .returned (.bool (dec (usualP r s n))) ∧ Below w.heap.size w w' := by
  obtain ⟨om, nm, cm, od, nd, cd, oy, ny, cy, op, np, cp, hx, h2, h3, h4, h5⟩ := h.lies
  have HM := Lib.hid (nil_iff h2.len); have HD := Lib.hid (nil_iff h3.len); have HY := Lib.hid (nil_iff h4.len)
  have kA := hx.cell
  have hbl : b < w.heap.size := hx.lt
  have WN := Lib.hid (fun W => weekday_any n (by omega) (by omega) W)
  have WS := Lib.hid (fun W => weekday_any s (by omega) (by omega) W)
  have HB := Lib.hid (fun ob => show Below w.heap.size w (w.alloc ob) from belowA _ (Below.refl _ _))
  clear h h2 h3 h4 h5 hx
  go_enter Tryz.func226, Tryz.ntmps226
  go_wp2_with fail
  all_goals (try (
    refine wp_region_quiet_lit (by kernel_rfl) (by kernel_rfl) ?_
    repeat (any_goals (first | go_big_quiet_step (((first | (go_at_call 204; exact Calls.quiet_of_same (WN.out _)) | (go_at_call 204; exact Calls.quiet_of_same (WS.out _))))) | quiet_step (((first | (go_at_call 204; exact Calls.quiet_of_same (WN.out _)) | (go_at_call 204; exact Calls.quiet_of_same (WS.out _))))) | (refine wpQuiet_step (fun K hK => ?_); go_simp; split <;> (refine hK _ ?_; clear hK K))))
    all_goals (refine wpQuiet_nil ?_; intro _ hw'; obtain ⟨nq, hw''⟩ := hw'; subst hw'')
    all_goals go_wp2_with fail))
  all_goals go_ret
  all_goals refine ⟨ret_dec ?_, by first | exact HB.out _ | exact below_drewN (HB.out _) _⟩
  all_goals unfold usualP plainP
  all_goals rw [HD.out, HY.out]
  all_goals simp only [ne_eq, HM.out]
  all_goals try simp only [decide_eq_true_eq, Bool.false_eq_true, false_iff, true_iff, beq_iff_eq, beq_eq_false_iff_ne, Bool.or_eq_true, Bool.and_eq_true, ne_eq] at *
  all_goals first
    | omega
    | trace_state

set_option maxHeartbeats 16000000 in
set_option maxRecDepth 100000 in
theorem right_any (r : RuleD) (s mi : Int) (b : Nat) (n : Int) (w : World) (h : Wk r s mi b w) (hn0 : 0 ≤ n) (hn1 : n < 109938) (hf : r.byMonth.length ≤ 10000 ∧ r.byMonthDay.length ≤ 10000 ∧ r.byDay.length ≤ 10000) :
    Calls Tryz.prog 225 #[.pointer (some ⟨b, 0, none⟩), .int .i64 n, .agg #[.int .i64 (dateY n), .int .i64 (dateM n), .int .i64 (dD n)]] w fun e w' => e = .returned (.bool (dec (rightP r n))) ∧ Below w.heap.size w w' := by
  obtain ⟨om, nm, cm, od, nd, cd, oy, ny, cy, op, np, cp, hx, h2, h3, h4, h5⟩ := h.lies
  obtain ⟨hv, -, m1, m2⟩ := date_valid n hn0 hn1
  obtain ⟨v1, v2, v3, v4⟩ := hv
  have hlb := lenM_bd (dateY n) (dateM n)
  have HM := Lib.hid (nil_iff h2.len); have HD := Lib.hid (nil_iff h3.len); have HY := Lib.hid (nil_iff h4.len)
  have kA := hx.cell
  have hbl : b < w.heap.size := hx.lt
  obtain ⟨L, hL⟩ : ∃ L, L = lenM (dateY n) (dateM n) := ⟨_, rfl⟩
  have LN := Lib.hid (fun W => quiet_eq (length_any (dateY n) (dateM n) (by omega) (by omega) (by omega) (by omega) W))
  rw [← hL] at LN hlb v4
  have CM := Lib.hid (fun W (hb : Below w.heap.size w W) => contains_any _ r.byMonth (dateM n) W (h2.later' hb) (by omega))
  have CD1 := Lib.hid (fun W (hb : Below w.heap.size w W) => contains_any _ r.byMonthDay (dD n) W (h3.later' hb) (by omega))
  have CD2 := Lib.hid (fun W (hb : Below w.heap.size w W) => contains_any _ r.byMonthDay (dD n - L - 1) W (h3.later' hb) (by omega))
  have NT := Lib.hid (fun W (hb : Below w.heap.size w W) => nth_any _ r.byDay n hn0 hn1 W (h4.later' hb) (by omega))
  have WN := Lib.hid (fun W => weekday_any n (by omega) (by omega) W)
  have HB2 := Lib.hid (show Below w.heap.size w ((w.alloc (.cells #[.int .i64 (dateY n), .int .i64 (dateM n), .int .i64 (dD n)] 131)).alloc (.cells #[.int .i64 r.freq, .int .i64 r.interval, .int .i64 r.count, .int .i64 r.until_, .slice om nm cm, .slice od nd cd, .slice oy ny cy, .slice op np cp, .int .i64 r.start] 28)) from ((Below.refl _ _).alloc (Nat.le_refl _) _).alloc (by simp) _)
  have HL := Lib.hid hL
  have HSD := Lib.hid (fun q => show ((fun W' => (∀ j, W'.cell? ⟨w.heap.size, j, none⟩ = (#[.int .i64 (dateY n), .int .i64 (dateM n), .int .i64 (dD n)] : Array Value)[j]?) ∧ (∀ j, W'.cell? ⟨w.heap.size + 1, j, none⟩ = (#[.int .i64 r.freq, .int .i64 r.interval, .int .i64 r.count, .int .i64 r.until_, .slice om nm cm, .slice od nd cd, .slice oy ny cy, .slice op np cp, .int .i64 r.start] : Array Value)[j]?))) (((w.alloc (.cells #[.int .i64 (dateY n), .int .i64 (dateM n), .int .i64 (dD n)] 131)).alloc (.cells #[.int .i64 r.freq, .int .i64 r.interval, .int .i64 r.count, .int .i64 r.until_, .slice om nm cm, .slice od nd cd, .slice oy ny cy, .slice op np cp, .int .i64 r.start] 28)).drewN q).drew from ⟨fun j => by simp [go_sem], fun j => by simp [go_sem]⟩)
  have hw1 : IntKind.i64.wrap (dD n - L) = dD n - L := by rw [IntKind.wrap_i64]; omega
  have hw2 : IntKind.i64.wrap (dD n - L - 1) = dD n - L - 1 := by rw [IntKind.wrap_i64]; omega
  clear h h2 h3 h4 h5 hx hL
  go_enter Tryz.func225, Tryz.ntmps225
  go_wp2_with (first | (go_at_call 221; ((with_reducible refine (CM.out _ (by first | exact HB2.out | exact below_drewN HB2.out _ | exact HB2.out.drew)).mono ?_); rintro e w1 ⟨rfl, rfl⟩)) | (go_at_call 221; ((with_reducible refine (CD1.out _ (by first | exact HB2.out | exact below_drewN HB2.out _ | exact HB2.out.drew)).mono ?_); rintro e w1 ⟨rfl, rfl⟩)) | (go_at_call 221; ((with_reducible refine (CD2.out _ (by first | exact HB2.out | exact below_drewN HB2.out _ | exact HB2.out.drew)).mono ?_); rintro e w1 ⟨rfl, rfl⟩)))
  all_goals (try (
    refine wp_region_quiet_lit (by kernel_rfl) (by kernel_rfl) ?_
    repeat (any_goals (first | go_big_quiet_step (((go_at_call 228; exact Calls.quiet_of_same (LN.out _)))) | quiet_step (((go_at_call 228; exact Calls.quiet_of_same (LN.out _)))) | (refine wpQuiet_step (fun K hK => ?_); go_simp; split <;> (refine hK _ ?_; clear hK K))))
    all_goals (refine wpQuiet_nil ?_; intro _ hw'; obtain ⟨nq, hw''⟩ := hw'; subst hw'')
    all_goals go_wp2_with (first | (go_at_call 221; ((with_reducible refine (CM.out _ (by first | exact HB2.out | exact below_drewN HB2.out _ | exact HB2.out.drew)).mono ?_); rintro e w1 ⟨rfl, rfl⟩)) | (go_at_call 221; ((with_reducible refine (CD1.out _ (by first | exact HB2.out | exact below_drewN HB2.out _ | exact HB2.out.drew)).mono ?_); rintro e w1 ⟨rfl, rfl⟩)) | (go_at_call 221; ((with_reducible refine (CD2.out _ (by first | exact HB2.out | exact below_drewN HB2.out _ | exact HB2.out.drew)).mono ?_); rintro e w1 ⟨rfl, rfl⟩)))))
  all_goals (by_cases hy0 : ny = 0)
  all_goals first
    | (go_ret
       have HB3 := Lib.hid (by first | exact HB2.out | exact below_drewN HB2.out _ | exact HB2.out.drew))
    | (have hz : ny = 0 := by assumption
       refine wp_region_quiet_lit (by kernel_rfl) (by kernel_rfl) ?_
       repeat (any_goals (first | go_big_quiet_step ((fail)) | quiet_step ((fail)) | (refine wpQuiet_step (fun K hK => ?_); go_simp; split <;> (refine hK _ ?_; clear hK K))))
       all_goals (refine wpQuiet_nil ?_; intro _ hw'; obtain ⟨nq, hw''⟩ := hw'; subst hw'')
       all_goals go_wp2_with fail
       all_goals go_ret
       all_goals have HB3 := Lib.hid (below_drewN HB2.out 0))
    | (have b1 : ((ny : Int) == 0) = false := by rw [beq_eq_false_iff_ne]; omega
       have b2 : (ny == 0) = false := by rw [beq_eq_false_iff_ne]; omega
       refine wp_region_held_drew (S := (fun W' => (∀ j, W'.cell? ⟨w.heap.size, j, none⟩ = (#[.int .i64 (dateY n), .int .i64 (dateM n), .int .i64 (dD n)] : Array Value)[j]?) ∧ (∀ j, W'.cell? ⟨w.heap.size + 1, j, none⟩ = (#[.int .i64 r.freq, .int .i64 r.interval, .int .i64 r.count, .int .i64 r.until_, .slice om nm cm, .slice od nd cd, .slice oy ny cy, .slice op np cp, .int .i64 r.start] : Array Value)[j]?))) (by kernel_rfl) (HSD.out _) (fun hHeld => ?_)
       simp only [List.size_toArray, List.length_cons, List.length_nil, Nat.reduceAdd, Array.replicate_succ, Array.replicate_zero, List.push_toArray, List.nil_append, List.cons_append]
       refine wpAnyH_take (i := 0) (oi := ⟨some 53, _, _, _, _, _⟩) (v := ?_) rfl (by kernel_rfl) (by kernel_rfl) (by kernel_rfl) (fun _ _ _ h => h) (Or.inl ⟨by kernel_rfl, ?_⟩) (by assumption) ?_
       rotate_left
       · intro w hSw; (try dsimp only at hSw); go_simp; try with_reducible rfl
       try simp only [Act.put, List.setIfInBounds_toArray, List.set_cons_zero, List.set_cons_succ]
       refine wpAnyH_take (i := 1) (oi := ⟨some 54, _, _, _, _, _⟩) (v := ?_) rfl (by kernel_rfl) (by kernel_rfl) (by kernel_rfl) (fun _ _ _ h => h) (Or.inl ⟨by kernel_rfl, ?_⟩) (by assumption) ?_
       rotate_left
       · intro w hSw; (try dsimp only at hSw); go_simp; try with_reducible rfl
       try simp only [Act.put, List.setIfInBounds_toArray, List.set_cons_zero, List.set_cons_succ]
       refine wpAnyH_take (i := 2) (oi := ⟨some 55, _, _, _, _, _⟩) (v := ?_) rfl (by kernel_rfl) (by kernel_rfl) (by kernel_rfl) (fun _ _ _ h => h) (Or.inl ⟨by kernel_rfl, ?_⟩) (by assumption) ?_
       rotate_left
       · intro w hSw; (try dsimp only at hSw); go_simp; try with_reducible rfl
       try simp only [Act.put, List.setIfInBounds_toArray, List.set_cons_zero, List.set_cons_succ]
       refine wpAnyH_take (i := 3) (oi := ⟨some 56, _, _, _, _, _⟩) (v := ?_) rfl (by kernel_rfl) (by kernel_rfl) (by kernel_rfl) (fun _ _ _ h => h) (Or.inl ⟨by kernel_rfl, ?_⟩) (by assumption) ?_
       rotate_left
       · intro w hSw; (try dsimp only at hSw); go_simp; try with_reducible rfl
       try simp only [Act.put, List.setIfInBounds_toArray, List.set_cons_zero, List.set_cons_succ]
       refine wpAnyH_take (i := 4) (oi := ⟨some 57, _, _, _, _, _⟩) (v := ?_) rfl (by kernel_rfl) (by kernel_rfl) (by kernel_rfl) (fun _ _ _ h => h) (Or.inl ⟨by kernel_rfl, ?_⟩) (by assumption) ?_
       rotate_left
       · intro w hSw; (try dsimp only at hSw); go_simp; try with_reducible rfl
       try simp only [Act.put, List.setIfInBounds_toArray, List.set_cons_zero, List.set_cons_succ]
       refine wpAnyH_take (i := 5) (oi := ⟨some 58, _, _, _, _, _⟩) (v := ?_) rfl (by kernel_rfl) (by kernel_rfl) (by kernel_rfl) (fun _ _ _ h => h) (Or.inl ⟨by kernel_rfl, ?_⟩) (by assumption) ?_
       rotate_left
       · intro w hSw; (try dsimp only at hSw); go_simp; try with_reducible rfl
       try simp only [Act.put, List.setIfInBounds_toArray, List.set_cons_zero, List.set_cons_succ]
       refine wpAnyH_take (i := 6) (oi := ⟨some 59, _, _, _, _, _⟩) (v := ?_) rfl (by kernel_rfl) (by kernel_rfl) (by kernel_rfl) (fun _ _ _ h => h) (Or.inl ⟨by kernel_rfl, ?_⟩) (by assumption) ?_
       rotate_left
       · intro w hSw; (try dsimp only at hSw); go_simp; try with_reducible rfl
       try simp only [Act.put, List.setIfInBounds_toArray, List.set_cons_zero, List.set_cons_succ]
       refine wpAnyH_take (i := 7) (oi := ⟨some 60, _, _, _, _, _⟩) (v := ?_) rfl (by kernel_rfl) (by kernel_rfl) (by kernel_rfl) (fun _ _ _ h => h) (Or.inl ⟨by kernel_rfl, ?_⟩) (by assumption) ?_
       rotate_left
       · intro w hSw; (try dsimp only at hSw); go_simp; try with_reducible rfl
       try simp only [Act.put, List.setIfInBounds_toArray, List.set_cons_zero, List.set_cons_succ]
       refine wpAnyH_take (i := 8) (oi := ⟨some 61, _, _, _, _, _⟩) (v := ?_) rfl (by kernel_rfl) (by kernel_rfl) (by kernel_rfl) (fun _ _ _ h => h) (Or.inl ⟨by kernel_rfl, ?_⟩) (by assumption) ?_
       rotate_left
       · intro w hSw; (try dsimp only at hSw); go_simp; try with_reducible rfl
       try simp only [Act.put, List.setIfInBounds_toArray, List.set_cons_zero, List.set_cons_succ]
       refine wpAnyH_ready (rs := [9]) (by kernel_rfl) (by simp) ?_
       refine AllReadyH.cons rfl (fun K hK => ?_) AllReadyH.nil
       have HK := Lib.hid hK
       go_simp
       go_at_call 204; ((with_reducible refine (WN.out _).mono ?_); rintro e w3 ⟨rfl, rfl⟩)
       go_simp
       refine HK.out _ _ (HSD.out _) (fun hHeld => ?_)
       clear HK hK K
       try simp only [Act.put, List.setIfInBounds_toArray, List.set_cons_zero, List.set_cons_succ]
       refine wpAnyH_ready (rs := [10]) (by kernel_rfl) (by simp) ?_
       refine AllReadyH.cons rfl (fun K hK => ?_) AllReadyH.nil
       have HK := Lib.hid hK
       go_simp
       go_at_call 232; ((with_reducible refine (NT.out _ (by first | exact HB2.out | exact below_drewN HB2.out _ | exact HB2.out.drew)).mono ?_); rintro e w4 ⟨rfl, hb4⟩; have hS4 := And.intro (fun j => (hb4.cell (p := ⟨w.heap.size, j, none⟩) (by simp <;> omega)).trans ((HSD.out _).1 j)) (fun j => (hb4.cell (p := ⟨w.heap.size + 1, j, none⟩) (by simp <;> omega)).trans ((HSD.out _).2 j)); have HB4 := Lib.hid ((show Below w.heap.size w _ from (by first | exact HB2.out | exact below_drewN HB2.out _ | exact HB2.out.drew)).trans (hb4.mono (by simp <;> omega))); clear hb4)
       go_simp
       refine HK.out _ _ hS4 (fun hHeld => ?_)
       clear HK hK K
       try simp only [Act.put, List.setIfInBounds_toArray, List.set_cons_zero, List.set_cons_succ]
       refine wpAnyH_take (i := 11) (oi := ⟨some 64, _, _, _, _, _⟩) (v := ?_) rfl (by kernel_rfl) (by kernel_rfl) (by kernel_rfl) (fun _ _ _ h => h) (Or.inl ⟨by kernel_rfl, ?_⟩) (by assumption) ?_
       rotate_left
       · intro w hSw; (try dsimp only at hSw); go_simp; try with_reducible rfl
       try simp only [Act.put, List.setIfInBounds_toArray, List.set_cons_zero, List.set_cons_succ]
       refine wpAnyH_take (i := 12) (oi := ⟨some 6, _, _, _, _, _⟩) (v := ?_) rfl (by kernel_rfl) (by kernel_rfl) (by kernel_rfl) (fun _ _ _ h => h) (Or.inl ⟨by kernel_rfl, ?_⟩) (by assumption) ?_
       rotate_left
       · intro w hSw; (try dsimp only at hSw); go_simp; try with_reducible rfl
       try simp only [Act.put, List.setIfInBounds_toArray, List.set_cons_zero, List.set_cons_succ]
       refine wpAnyH_done (by kernel_rfl) ?_ _
       go_wp2_with fail
       go_ret
       have HB3 := HB4)
  all_goals refine ⟨ret_dec ?_, by first | exact HB3.out | exact HB2.out | exact below_drewN HB2.out _ | exact below_drewN (below_drewN HB2.out _) _⟩
  all_goals unfold rightP
  all_goals rw [HM.out, HD.out, HY.out, ← HL.out]
  all_goals clear HSD HB2 HB3 kA LN CM CD1 CD2 NT WN HM HD HY HL
  all_goals (try clear HB4)
  all_goals generalize hA : (dateM n ∈ r.byMonth) = A at *
  all_goals generalize hB : (dD n ∈ r.byMonthDay) = B at *
  all_goals generalize hC : (dD n - L - 1 ∈ r.byMonthDay) = C at *
  all_goals generalize hD : nthP r.byDay n = D at *
  all_goals simp only [Bool.not_eq_true', Bool.not_eq_false', dec_iff, decf_iff, Bool.false_eq_true, false_iff, true_iff, Nat.pos_iff_ne_zero, ne_eq, Decidable.not_not] at *
  all_goals simp_all
end Go.Proofs.YtechgcjdigpglaaGreat
