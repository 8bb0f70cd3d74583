/- The document's days. Condition: at most ten thousand days and months, and the frequency is at most 4. -/
import Derived.Test.YtcleicjgeflbnaaGreatR8
namespace Go.Proofs.YtcleicjgeflbnaaGreat
open Go.RowKit Go.ChangeShapes Go.WideShapes Go.Deep
set_option linter.all false

theorem day_cases (r : RuleD) (v : DayND) (nm : Nat) (L : r.byMonth.length = nm) (hf : r.freq ≤ 4) (hv : 0 ≤ v.day ∧ v.day ≤ 6 ∧ -5 ≤ v.n ∧ v.n ≤ 5) :
    ((v.n != 0) = false ∧ Hid (dayOne r v)) ∨ ((v.n != 0) = true ∧ decide (r.freq < 3) = false ∧ (r.freq == 4) = false ∧ Hid (dayOne r v)) ∨ ((v.n != 0) = true ∧ decide (r.freq < 3) = false ∧ (r.freq == 4) = true ∧ ((nm : Int) == 0) = false ∧ Hid (dayOne r v)) ∨ ((v.n != 0) = true ∧ decide (r.freq < 3) = true ∧ Hid (¬ dayOne r v)) ∨ ((v.n != 0) = true ∧ decide (r.freq < 3) = false ∧ (r.freq == 4) = true ∧ ((nm : Int) == 0) = true ∧ Hid (¬ dayOne r v)) := by
  have key : dayOne r v ↔ (v.n = 0 ∨ nthMay r) := ⟨fun h => h.2.2.2.2, fun h => ⟨hv.1, hv.2.1, hv.2.2.1, hv.2.2.2, h⟩⟩
  have kn : nthMay r ↔ r.freq = 3 ∨ r.freq = 4 ∧ 0 < nm := by rw [← L]; rfl
  rw [kn] at key
  by_cases h0 : v.n = 0
  · exact .inl ⟨by simp [h0], key.2 (.inl h0)⟩
  · have b0 : (v.n != 0) = true := by simp [h0]
    by_cases h1 : r.freq < 3
    · exact .inr (.inr (.inr (.inl ⟨b0, decide_eq_true h1, fun h => by have := key.1 h; omega⟩)))
    · by_cases h2 : r.freq = 4
      · by_cases h3 : nm = 0
        · exact .inr (.inr (.inr (.inr ⟨b0, decide_eq_false h1, by simp [h2], by rw [h3]; rfl, fun h => by have := key.1 h; omega⟩)))
        · exact .inr (.inr (.inl ⟨b0, decide_eq_false h1, by simp [h2], by rw [beq_eq_false_iff_ne]; omega, key.2 (by omega)⟩))
      · exact .inr (.inl ⟨b0, decide_eq_false h1, by rw [beq_eq_false_iff_ne]; exact h2, key.2 (by omega)⟩)

theorem dlt_cases (u v : DayND) : (decide (v.n < u.n) = false ∧ (u.n == v.n) = true ∧ decide (v.day ≤ u.day) = false ∧ Hid (dlt u v)) ∨ (decide (v.n < u.n) = false ∧ (u.n == v.n) = false ∧ Hid (dlt u v)) ∨
    (decide (v.n < u.n) = true ∧ Hid (¬ dlt u v)) ∨ (decide (v.n < u.n) = false ∧ (u.n == v.n) = true ∧ decide (v.day ≤ u.day) = true ∧ Hid (¬ dlt u v)) := by
  by_cases h1 : v.n < u.n
  · exact .inr (.inr (.inl ⟨decide_eq_true h1, fun h => by unfold dlt at h; omega⟩))
  · by_cases h2 : u.n = v.n
    · have b : (u.n == v.n) = true := by simp [h2]
      by_cases h3 : v.day ≤ u.day
      · exact .inr (.inr (.inr ⟨decide_eq_false h1, b, decide_eq_true h3, fun h => by unfold dlt at h; omega⟩))
      · exact .inl ⟨decide_eq_false h1, b, decide_eq_false h3, .inr ⟨h2, by omega⟩⟩
    · exact .inr (.inl ⟨decide_eq_false h1, by rw [beq_eq_false_iff_ne]; exact h2, .inl (by omega)⟩)

set_option maxHeartbeats 16000000 in
set_option maxRecDepth 100000 in
theorem refDays_any (cs : List Value) (r : RuleD) (w : World) (h : rRule w cs r) (hl : r.byDay.length ≤ 10000) (hlm : r.byMonth.length ≤ 10000) (hf : r.freq ≤ 4) :
    Calls Tryz.prog 49 #[.agg cs.toArray] w fun e w' => e = .returned (.bool (dec (daysMay r))) ∧ Below w.heap.size w w' := by
  obtain ⟨m, d, y, p, rfl, -, -, -, -, -, hm, ⟨od, nd, cd, rfl, -⟩, hy, ⟨op, np, cp, rfl, -⟩⟩ := h
  obtain ⟨om, nm, cm, rfl, lm, -, -, -⟩ := hm.open
  obtain ⟨oy, ny, cy, rfl, ly, -, -, RY⟩ := hy.open
  have S := Lib.hid RY
  have L := Lib.hid ly
  have hny : ny ≤ 10000 := by omega
  have hnm : nm ≤ 10000 := by omega
  have HB := Lib.hid (show Below w.heap.size w (w.alloc (.cells #[.int .i64 r.freq, .int .i64 r.interval, .int .i64 r.count, .int .i64 r.until_, .slice om nm cm, .slice od nd cd, .slice oy ny cy, .slice op np cp, .int .i64 r.start] 28)) from (Below.refl _ _).alloc (Nat.le_refl _) _)
  have PC := Lib.hid (fun (v : DayND) hv => day_cases r v nm lm hf hv)
  clear hm hy RY ly lm hl hlm hf
  go_enter Tryz.func49, Tryz.ntmps49
  go_wp2_with fail
  go_loopw [8] (fun b wr => ∃ k : Nat, k ≤ ny ∧ b = .int .i64 (k : Nat) ∧ (∀ j, World.cell? wr ⟨w.heap.size, j, none⟩ = World.cell? (w.alloc (.cells #[.int .i64 r.freq, .int .i64 r.interval, .int .i64 r.count, .int .i64 r.until_, .slice om nm cm, .slice od nd cd, .slice oy ny cy, .slice op np cp, .int .i64 r.start] 28)) ⟨w.heap.size, j, none⟩) ∧ w.heap.size < wr.heap.size ∧ Hid (Below w.heap.size w wr) ∧ Hid (∀ (i : Nat) x, i < k → r.byDay[i]? = some x → dayOne r x) ∧ Hid (risesDayTo r.byDay k)) (fun b _ => ny - (intOf b).toNat)
  case atStart => exact ⟨0, Nat.zero_le _, rfl, fun _ => rfl, by simp, HB.out, fun i x h => absurd h (Nat.not_lt_zero _), fun i a b h => absurd h (by omega)⟩
  case round =>
    obtain ⟨k, hk, rfl, kA, hz, HBw, I, J⟩ := hrel
    obtain ⟨wl, rfl⟩ : ∃ x, x = wr := ⟨_, rfl⟩
    by_cases hlt : k < ny
    · have hlt' : (k : Int) < (ny : Int) := by omega
      obtain ⟨v, a1, cs1, hx, rfl, q1, ⟨rfl, _, _⟩, q0, q0'⟩ := S.out.elem HBw.out k hlt
      have e0 := q0 (by decide)
      have e1 := q0' 1 (by decide) (by decide)
      simp only [List.getElem?_cons_zero, List.getElem?_cons_succ] at e0 e1
      have HX := Lib.hid hx
      have HBo := Lib.hid (fun (o : Obj) => HBw.out.alloc (Nat.le_of_lt hz) o)
      clear q0 q0' q1 hx
      by_cases hval : 0 ≤ v.day ∧ v.day ≤ 6 ∧ -5 ≤ v.n ∧ v.n ≤ 5
      · have hv1 := decide_eq_false (show ¬ v.day < 0 by omega)
        have hv2 := decide_eq_false (show ¬ 6 < v.day by omega)
        have hv3 := decide_eq_false (show ¬ v.n < -5 by omega)
        have hv4 := decide_eq_false (show ¬ 5 < v.n by omega)
        have hpc := PC.out v hval
        clear hval
        rcases k with _ | j
        · simp only [Nat.zero_mul, add_none] at e0 e1
          rcases hpc with ⟨p1, OK⟩ | ⟨p1, p2, p3, OK⟩ | ⟨p1, p2, p3, p4, OK⟩ | ⟨p1, p2, OK⟩ | ⟨p1, p2, p3, p4, OK⟩
          case inr.inr.inr.inl =>
            go_wp2_with fail
            go_ret
            exact ⟨ret_f (fun h => OK.out (h.1 v (List.mem_of_getElem? HX.out))), HBo.out _⟩
          case inr.inr.inr.inr =>
            go_wp2_with fail
            go_ret
            exact ⟨ret_f (fun h => OK.out (h.1 v (List.mem_of_getElem? HX.out))), HBo.out _⟩
          all_goals
            go_wp2_with fail
            go_quiet (fail)
            go_wp2_with fail
            go_roundw
            case measure => simp [intOf]; omega
            case rel =>
              first
                | refine ⟨0 + 1, ?_, ?_, ?_, ?_, ?_, ?_, ?_⟩
                | ((repeat apply Exists.intro); refine ⟨⟨0 + 1, ?_, ?_, ?_, ?_, ?_, ?_, ?_⟩, rfl⟩)
              · omega
              · go_num
              · intro j'; exact (World.cell?_alloc_lt _ _ _ hz).trans (kA j')
              · simp; omega
              · first | exact HBo.out _ | exact below_drewN (HBo.out _) _ | exact (HBo.out _).drew
              · intro i z hi hz'
                by_cases e : i = 0
                · subst e
                  rw [HX.out] at hz'; cases hz'
                  exact OK.out
                · exact I.out i z (by omega) hz'
              · intro i a b hi ha hb
                exact absurd hi (by omega)
        · obtain ⟨u, a2, cs2, hu, ha, q1, ⟨rfl, _, _⟩, q0, q0'⟩ := S.out.elem HBw.out j (by omega)
          cases ha
          have g0 := q0 (by decide)
          have g1 := q0' 1 (by decide) (by decide)
          simp only [List.getElem?_cons_zero, List.getElem?_cons_succ] at g0 g1
          have HU := Lib.hid hu
          have g0' : ∀ O, (wl.alloc O).cell? (a1.add (j * 2)) = some (.int .i64 u.n) := fun O => (World.cell?_alloc_lt _ _ _ (World.block_lt_of_cell? wl _ g0)).trans g0
          have g1' : ∀ O, (wl.alloc O).cell? ⟨(a1.add (j * 2)).block, (a1.add (j * 2)).off + 1, none⟩ = some (.int .i64 u.day) := fun O => (World.cell?_alloc_lt _ _ _ (World.block_lt_of_cell? wl _ g1)).trans g1
          have hw : wrap64 ((j : Int) + 1 - 1) = (j : Int) := by unfold wrap64; omega
          have hw4 : (IntKind.i64).wrap ((j : Int) + 1 - 1) = (j : Int) := by rw [IntKind.wrap_i64]; omega
          have hjp : (0 : Int) ≤ (j : Int) + 1 := by omega
          have hjq : (0 : Int) < (j : Int) + 1 := by omega
          have hjn : (j : Int) + 1 < (ny : Int) := by omega
          have htn : ((j : Int) + 1).toNat = j + 1 := by omega
          have hj0 : (0 : Int) ≤ (j : Int) := by omega
          have hj1 : (j : Int) < (ny : Int) := by omega
          have hdc := dlt_cases u v
          clear q0 q0' q1 hu g0 g1
          rcases hpc with ⟨p1, OK⟩ | ⟨p1, p2, p3, OK⟩ | ⟨p1, p2, p3, p4, OK⟩ | ⟨p1, p2, OK⟩ | ⟨p1, p2, p3, p4, OK⟩
          case inr.inr.inr.inl =>
            clear hdc
            go_wp2_with fail
            go_ret
            exact ⟨ret_f (fun h => OK.out (h.1 v (List.mem_of_getElem? HX.out))), HBo.out _⟩
          case inr.inr.inr.inr =>
            clear hdc
            go_wp2_with fail
            go_ret
            exact ⟨ret_f (fun h => OK.out (h.1 v (List.mem_of_getElem? HX.out))), HBo.out _⟩
          all_goals
            rcases hdc with ⟨m1, m2, m3, M⟩ | ⟨m1, m2, M⟩ | ⟨m1, M⟩ | ⟨m1, m2, m3, M⟩
            case inr.inr.inl | inr.inr.inr =>
              go_wp2_with fail
              go_quiet (fail)
              go_wp2_with fail
              go_ret
              exact ⟨ret_f (fun h => M.out (h.2 j u v HU.out HX.out)), below_drewN (HBo.out _) _⟩
            all_goals
              go_wp2_with fail
              go_quiet (fail)
              go_wp2_with fail
              go_roundw
              case measure => simp [intOf]; omega
              case rel =>
                first
                  | refine ⟨(j + 1) + 1, ?_, ?_, ?_, ?_, ?_, ?_, ?_⟩
                  | ((repeat apply Exists.intro); refine ⟨⟨(j + 1) + 1, ?_, ?_, ?_, ?_, ?_, ?_, ?_⟩, rfl⟩)
                · omega
                · go_num
                · intro j'; exact (World.cell?_alloc_lt _ _ _ hz).trans (kA j')
                · simp; omega
                · first | exact HBo.out _ | exact below_drewN (HBo.out _) _ | exact (HBo.out _).drew
                · intro i z hi hz'
                  by_cases e : i = (j + 1)
                  · subst e
                    rw [HX.out] at hz'; cases hz'
                    exact OK.out
                  · exact I.out i z (by omega) hz'
                · intro i a b hi ha hb
                  by_cases e : i = j; (subst e; rw [HU.out] at ha; rw [HX.out] at hb; cases ha; cases hb; exact M.out); exact J.out i a b (by omega) ha hb
      · have NV := Lib.hid (show ¬ dayOne r v from fun h => hval ⟨h.1, h.2.1, h.2.2.1, h.2.2.2.1⟩)
        go_wp2_with fail
        all_goals first
          | (exfalso; omega)
          | (go_ret; exact ⟨ret_f (fun h => NV.out (h.1 v (List.mem_of_getElem? HX.out))), HBo.out _⟩)
    · obtain rfl : ny = k := by omega
      have hall : daysMay r := ⟨fun x hx => by
        obtain ⟨i, hi, rfl⟩ := List.getElem_of_mem hx
        exact I.out i _ (by have := L.out; omega) (List.getElem?_eq_getElem hi), fun i a b ha hb => J.out i a b (by have := (List.getElem?_eq_some_iff.1 hb).1; have := L.out; omega) ha hb⟩
      have HALL := Lib.hid hall
      clear hall
      go_wp2_with fail
      go_ret
      exact ⟨ret_t HALL.out, HBw.out⟩
end Go.Proofs.YtcleicjgeflbnaaGreat
