/- recur.Between and Has. Conditions: the rule reads, its rows are not too long. -/
import Derived.Test.YtechgcjdigpglaaGreatK15
namespace Go.Proofs.YtechgcjdigpglaaGreat
open Go.RowKit Go.ChangeShapes Go.WideShapes Go.Deep
set_option linter.all false

theorem between_any (cs : List Value) (r : RuleD) (start from_ to_ most : Int) (w : World) (h : rRule w cs r) (hf : fewR r) :
    Calls Tryz.prog 88 #[.agg cs.toArray, .int .i64 start, .int .i64 from_, .int .i64 to_, .int .i64 most] w (BetEnd r start from_ to_ most w) := by
  refine (callsIn_wide (n := 5)).1 ?_
  by_cases h0 : ¬ (mayR r ∧ startOk start) ∨ to_ ≤ from_ ∨ to_ ≤ start
  · exact between_no cs r start from_ to_ most w h hf h0
  · have h1 : mayR r ∧ startOk start := Classical.byContradiction fun e => h0 (.inl e)
    exact between_yes cs r start from_ to_ most w h hf h1.1 h1.2 (Int.not_le.1 fun e => h0 (.inr (.inl e))) (Int.not_le.1 fun e => h0 (.inr (.inr e)))

/-- Is a stamp one of a rule's times. -/
def timeOf (r : RuleD) (start at_ : Int) : Prop := mayR r ∧ startOk start ∧ at_ ∈ allT r start
theorem one_in {l : List Int} (h : l.Pairwise (· < ·)) (x : Int) : (l.filter fun y => decide (x ≤ y) && decide (y < x + 1)) = if x ∈ l then [x] else [] := by
  induction l with
  | nil => rfl
  | cons y t ih =>
    rw [List.pairwise_cons] at h
    rw [List.filter_cons, ih h.2]
    by_cases e : y = x
    · subst e
      have hn : ¬ y ∈ t := fun hm => absurd (h.1 _ hm) (Int.lt_irrefl _)
      rw [if_pos (by simp; omega), if_neg hn, if_pos (List.mem_cons_self ..)]
    · have e2 : ¬ x = y := fun h => e h.symm
      rw [if_neg (by simp; omega)]
      by_cases hm : x ∈ t
      · rw [if_pos hm, if_pos (List.mem_cons_of_mem _ hm)]
      · rw [if_neg hm, if_neg (by rw [List.mem_cons]; exact fun h => h.elim e2 hm)]
theorem has_len (r : RuleD) (start at_ : Int) : ((betweenF r start at_ (at_ + 1) 1).1.length = 1 ↔ timeOf r start at_) ∧ (betweenF r start at_ (at_ + 1) 1).1.length ≤ 1 := by
  by_cases hm : mayR r ∧ startOk start
  · rw [between_eq hm.1 hm.2 (by omega) (by omega)]
    unfold someT
    rw [one_in (allT_rise hm.1 hm.2)]
    by_cases hx : at_ ∈ allT r start
    · rw [if_pos hx]; exact ⟨⟨fun _ => ⟨hm.1, hm.2, hx⟩, fun _ => rfl⟩, Nat.le_refl _⟩
    · rw [if_neg hx]; exact ⟨⟨fun h => by simp at h, fun h => absurd h.2.2 hx⟩, by simp⟩
  · have e : betweenF r start at_ (at_ + 1) 1 = ([], true) := by unfold betweenF; rw [if_pos (.inl (dec_f hm))]
    rw [e]
    exact ⟨⟨fun h => by simp at h, fun h => absurd ⟨h.1, h.2.1⟩ hm⟩, by simp⟩
theorem timeOf.stamp {r : RuleD} {start at_ : Int} (h : timeOf r start at_) : 0 ≤ at_ ∧ at_ < 158310720 := by
  have := mem_allT h.1 h.2.1 h.2.2
  have hs := h.2.1
  unfold startOk at hs
  omega

set_option maxHeartbeats 4000000 in
theorem recurHas_any (cs : List Value) (r : RuleD) (start at_ : Int) (w : World) (h : rRule w cs r) (hf : fewR r) :
    Calls Tryz.prog 61 #[.agg cs.toArray, .int .i64 start, .int .i64 at_] w fun e w' => e = .returned (.bool (dec (timeOf r start at_))) ∧ Below w.heap.size w w' := by
  have SR := Lib.hid h
  obtain ⟨m, d, y, p, rfl, -, -, -, -, -, hm, hd, hy, hp⟩ := h
  obtain ⟨om, nm, cm, rfl, -, -, -, -⟩ := hm.open
  obtain ⟨od, nd, cd, rfl, -, -, -, -⟩ := hd.open
  obtain ⟨oy, ny, cy, rfl, -, -, -, -⟩ := hy.open
  obtain ⟨op, np, cp, rfl, -, -, -, -⟩ := hp.open
  have BT := Lib.hid (fun (W : World) (hb : Below w.heap.size w W) => between_any _ r start at_ (at_ + 1) 1 W (SR.out.later hb) hf)
  have X0 := Lib.hid (show Below w.heap.size w (w.alloc (.cells #[.int .i64 r.freq, .int .i64 r.interval, .int .i64 r.count, .int .i64 r.until_, .slice om nm cm, .slice od nd cd, .slice oy ny cy, .slice op np cp, .int .i64 r.start] 28)) from belowA _ (Below.refl _ _))
  have HL := Lib.hid (has_len r start at_)
  clear hm hd hy hp hf
  by_cases c1 : at_ < 0
  · have d1 := decide_eq_true c1
    have HN := Lib.hid (show ¬ timeOf r start at_ from fun h => by have := h.stamp; omega)
    clear c1
    go_enter Tryz.func61, Tryz.ntmps61
    go_wp2_with fail
    go_ret
    exact ⟨ret_f HN.out, X0.out⟩
  · have d1 := decide_eq_false c1
    by_cases c2 : 158310720 ≤ at_
    · have d2 := decide_eq_true c2
      have HN := Lib.hid (show ¬ timeOf r start at_ from fun h => by have := h.stamp; omega)
      clear c1 c2
      go_enter Tryz.func61, Tryz.ntmps61
      go_wp2_with fail
      go_ret
      exact ⟨ret_f HN.out, X0.out⟩
    · have d2 := decide_eq_false c2
      have b1 : 0 ≤ at_ := by omega
      have b2 : at_ < 158310720 := by omega
      clear c1 c2
      go_enter Tryz.func61, Tryz.ntmps61
      go_wp2_with fail
      (with_reducible refine (BT.out _ X0.out).mono ?_)
      rintro e w1 ⟨v, rfl, ho, hb⟩
      obtain ⟨so, sc, rfl⟩ := own_slice2 ho
      have HB := Lib.hid (X0.out.trans (hb.mono X0.out.size))
      obtain ⟨n, hn⟩ : ∃ n, n = (betweenF r start at_ (at_ + 1) 1).1.length := ⟨_, rfl⟩
      have hl := HL.out
      rw [← hn] at hl
      have HN := Lib.hid hl
      have hn1 : n ≤ 1 := hl.2
      rw [← hn]
      clear ho hb hn hl
      by_cases hz : n = 1
      · have HY := Lib.hid (HN.out.1.1 hz)
        have e1 : ((n : Int) == 1) = true := by rw [beq_iff_eq]; omega
        have e2 : (n == 1) = true := by rw [beq_iff_eq]; omega
        clear hz
        go_wp2_with fail
        go_ret
        exact ⟨ret_t HY.out, HB.out⟩
      · have HY := Lib.hid (fun h => hz (HN.out.1.2 h))
        have e1 : ((n : Int) == 1) = false := by rw [beq_eq_false_iff_ne]; omega
        have e2 : (n == 1) = false := by rw [beq_eq_false_iff_ne]; omega
        clear hz
        go_wp2_with fail
        go_ret
        exact ⟨ret_f HY.out, HB.out⟩
end Go.Proofs.YtechgcjdigpglaaGreat
