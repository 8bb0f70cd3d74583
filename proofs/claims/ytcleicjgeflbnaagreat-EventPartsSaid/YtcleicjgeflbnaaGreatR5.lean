/- rule.daysMay. Condition: at most a thousand days and months. -/
import Derived.Test.YtcleicjgeflbnaaGreatR4
namespace Go.Proofs.YtcleicjgeflbnaaGreat
open Go.RowKit Go.ChangeShapes Go.WideShapes Go.Deep
set_option linter.all false

set_option maxHeartbeats 8000000 in
set_option maxRecDepth 100000 in
theorem daysMay_any (cs : List Value) (r : RuleD) (w : World) (h : rRule w cs r) (hl : r.byDay.length ≤ 10000) (hlm : r.byMonth.length ≤ 10000) :
    Calls Tryz.prog 46 #[.agg cs.toArray] w fun e w' => e = .returned (.bool (dec (daysMay r))) ∧ Below w.heap.size w w' := by
  obtain ⟨m, d, y, p, rfl, -, -, -, -, -, hm, ⟨od, nd, cd, rfl, -⟩, hy, ⟨op, np, cp, rfl, -⟩⟩ := h
  obtain ⟨om, nm, cm, rfl, lm, -, -, -⟩ := hm.open
  obtain ⟨oy, ny, cy, rfl, ly, -, -, RY⟩ := hy.open
  have S := Lib.hid RY
  have L := Lib.hid ly
  have LM := Lib.hid lm
  have hny : ny ≤ 10000 := by omega
  have C := Lib.hid (fun (W : World) (hb : Below w.heap.size w W) => risesD oy ny cy r.byDay W (RY.later' hb) hny)
  have HB := Lib.hid (show Below w.heap.size w (w.alloc (.cells #[.int .i64 r.freq, .int .i64 r.interval, .int .i64 r.count, .int .i64 r.until_, .slice om nm cm, .slice od nd cd, .slice oy ny cy, .slice op np cp, .int .i64 r.start] 28)) from (Below.refl _ _).alloc (Nat.le_refl _) _)
  clear hm hy RY ly lm hl hlm
  by_cases g1 : r.freq = 3
  · have b1 : (r.freq == 3) = true := by simpa using g1
    have hnt := Lib.hid (show nthMay r from .inl g1)
    clear g1
    go_enter Tryz.func46, Tryz.ntmps46
    go_wp2_with fail
    go_loopw [23] (fun b wr => ∃ k : Nat, k ≤ ny ∧ b = .int .i64 (k : Nat) ∧ (∀ j, World.cell? wr ⟨w.heap.size, j, none⟩ = World.cell? (w.alloc (.cells #[.int .i64 r.freq, .int .i64 r.interval, .int .i64 r.count, .int .i64 r.until_, .slice om nm cm, .slice od nd cd, .slice oy ny cy, .slice op np cp, .int .i64 r.start] 28)) ⟨w.heap.size, j, none⟩) ∧ w.heap.size < wr.heap.size ∧ Hid (Below w.heap.size w wr) ∧ Hid (∀ (i : Nat) x, i < k → r.byDay[i]? = some x → dayOne r x)) (fun b _ => ny - (intOf b).toNat)
    case atStart => exact ⟨0, Nat.zero_le _, rfl, fun _ => rfl, by simp, HB.out, fun i x h => absurd h (Nat.not_lt_zero _)⟩
    case round =>
      obtain ⟨k, hk, rfl, kA, hz, HBw, I⟩ := hrel
      obtain ⟨wl, rfl⟩ : ∃ x, x = wr := ⟨_, rfl⟩
      by_cases hlt : k < ny
      · have hlt' : (k : Int) < (ny : Int) := by omega
        obtain ⟨v, a1, cs1, hx, rfl, q1, ⟨rfl, _, _⟩, q0, q0'⟩ := S.out.elem HBw.out k hlt
        have e0 := q0 (by decide)
        have e1 := q0' 1 (by decide) (by decide)
        simp only [List.getElem?_cons_zero, List.getElem?_cons_succ] at e0 e1
        have HX := Lib.hid hx
        have HBo := Lib.hid (fun (o : Obj) => HBw.out.alloc (Nat.le_of_lt hz) o)
        clear q0 q0' q1 hx
        by_cases h1 : v.day < 0
        · have d1 := decide_eq_true h1
          have hno := Lib.hid (show ¬ daysMay r from fun h => by have hd := h.1 v (List.mem_of_getElem? HX.out); unfold dayOne at hd; omega)
          clear h1
          go_wp2_with fail
          go_ret
          exact ⟨ret_f hno.out, HBo.out _⟩
        · have d1 := decide_eq_false h1
          by_cases h2 : 6 < v.day
          · have d2 := decide_eq_true h2
            have hno := Lib.hid (show ¬ daysMay r from fun h => by have hd := h.1 v (List.mem_of_getElem? HX.out); unfold dayOne at hd; omega)
            clear h1 h2
            go_wp2_with fail
            go_ret
            exact ⟨ret_f hno.out, HBo.out _⟩
          · have d2 := decide_eq_false h2
            by_cases h3 : v.n < -5
            · have d3 := decide_eq_true h3
              have hno := Lib.hid (show ¬ daysMay r from fun h => by have hd := h.1 v (List.mem_of_getElem? HX.out); unfold dayOne at hd; omega)
              clear h1 h2 h3
              go_wp2_with fail
              go_ret
              exact ⟨ret_f hno.out, HBo.out _⟩
            · have d3 := decide_eq_false h3
              by_cases h4 : 5 < v.n
              · have d4 := decide_eq_true h4
                have hno := Lib.hid (show ¬ daysMay r from fun h => by have hd := h.1 v (List.mem_of_getElem? HX.out); unfold dayOne at hd; omega)
                clear h1 h2 h3 h4
                go_wp2_with fail
                go_ret
                exact ⟨ret_f hno.out, HBo.out _⟩
              · have d4 := decide_eq_false h4
                by_cases h5 : v.n = 0
                · have b5 : (v.n == 0) = true := by simpa using h5
                  have c5 : (v.n != 0) = false := by simp [h5]
                  have I2 := Lib.hid (show ∀ (i : Nat) z, i < k + 1 → r.byDay[i]? = some z → dayOne r z from fun i z hi hz => by
                    by_cases e : i = k
                    · subst e
                      rw [HX.out] at hz; cases hz
                      exact ⟨by omega, by omega, by omega, by omega, .inl h5⟩
                    · exact I.out i z (by omega) hz)
                  clear h1 h2 h3 h4
                  go_wp2_with fail
                  go_roundw
                  case measure => simp [intOf]; omega
                  case rel => exact ⟨k + 1, by omega, by go_num, fun j => (World.cell?_alloc_lt _ _ _ hz).trans (kA j), by simp; omega, HBo.out _, I2.out⟩
                · have b5 : (v.n == 0) = false := by simpa using h5
                  have c5 : (v.n != 0) = true := by simp [h5]
                  have I2 := Lib.hid (show ∀ (i : Nat) z, i < k + 1 → r.byDay[i]? = some z → dayOne r z from fun i z hi hz => by
                    by_cases e : i = k
                    · subst e
                      rw [HX.out] at hz; cases hz
                      exact ⟨by omega, by omega, by omega, by omega, .inr hnt.out⟩
                    · exact I.out i z (by omega) hz)
                  clear h1 h2 h3 h4
                  go_wp2_with fail
                  go_roundw
                  case measure => simp [intOf]; omega
                  case rel => exact ⟨k + 1, by omega, by go_num, fun j => (World.cell?_alloc_lt _ _ _ hz).trans (kA j), by simp; omega, HBo.out _, I2.out⟩
      · obtain rfl : ny = k := by omega
        have hall : ∀ d ∈ r.byDay, dayOne r d := fun d hd => by
          obtain ⟨i, hi, rfl⟩ := List.getElem_of_mem hd
          exact I.out i _ (by have := L.out; omega) (List.getElem?_eq_getElem hi)
        have HALL := Lib.hid hall
        clear hall
        go_wp2_with fail
        (with_reducible refine (C.out _ HBw.out).mono ?_)
        rintro e w1 ⟨rfl, hb1⟩
        have HB1 := Lib.hid (below_call HBw.out hb1)
        clear hb1
        go_wp2_with fail
        go_ret
        refine ⟨?_, HB1.out⟩
        by_cases hr : risesDay r.byDay
        · rw [dec_t hr]; exact ret_t ⟨HALL.out, hr⟩
        · rw [dec_f hr]; exact ret_f fun h => hr h.2
  · have b1 : (r.freq == 3) = false := by simpa using g1
    by_cases g2 : r.freq = 4
    · have b2 : (r.freq == 4) = true := by simpa using g2
      by_cases g3 : 0 < nm
      · have d3 : (0 : Int) < (nm : Int) := by omega
        have e3 := decide_eq_true d3
        have f3 : decide (0 < nm) = true := decide_eq_true g3
        have hnt := Lib.hid (show nthMay r from .inr ⟨g2, by rw [LM.out]; exact g3⟩)
        clear g1 g2
        go_enter Tryz.func46, Tryz.ntmps46
        go_wp2_with fail
        go_loopw [23] (fun b wr => ∃ k : Nat, k ≤ ny ∧ b = .int .i64 (k : Nat) ∧ (∀ j, World.cell? wr ⟨w.heap.size, j, none⟩ = World.cell? (w.alloc (.cells #[.int .i64 r.freq, .int .i64 r.interval, .int .i64 r.count, .int .i64 r.until_, .slice om nm cm, .slice od nd cd, .slice oy ny cy, .slice op np cp, .int .i64 r.start] 28)) ⟨w.heap.size, j, none⟩) ∧ w.heap.size < wr.heap.size ∧ Hid (Below w.heap.size w wr) ∧ Hid (∀ (i : Nat) x, i < k → r.byDay[i]? = some x → dayOne r x)) (fun b _ => ny - (intOf b).toNat)
        case atStart => exact ⟨0, Nat.zero_le _, rfl, fun _ => rfl, by simp, HB.out, fun i x h => absurd h (Nat.not_lt_zero _)⟩
        case round =>
          obtain ⟨k, hk, rfl, kA, hz, HBw, I⟩ := hrel
          obtain ⟨wl, rfl⟩ : ∃ x, x = wr := ⟨_, rfl⟩
          by_cases hlt : k < ny
          · have hlt' : (k : Int) < (ny : Int) := by omega
            obtain ⟨v, a1, cs1, hx, rfl, q1, ⟨rfl, _, _⟩, q0, q0'⟩ := S.out.elem HBw.out k hlt
            have e0 := q0 (by decide)
            have e1 := q0' 1 (by decide) (by decide)
            simp only [List.getElem?_cons_zero, List.getElem?_cons_succ] at e0 e1
            have HX := Lib.hid hx
            have HBo := Lib.hid (fun (o : Obj) => HBw.out.alloc (Nat.le_of_lt hz) o)
            clear q0 q0' q1 hx
            by_cases h1 : v.day < 0
            · have d1 := decide_eq_true h1
              have hno := Lib.hid (show ¬ daysMay r from fun h => by have hd := h.1 v (List.mem_of_getElem? HX.out); unfold dayOne at hd; omega)
              clear h1
              go_wp2_with fail
              go_ret
              exact ⟨ret_f hno.out, HBo.out _⟩
            · have d1 := decide_eq_false h1
              by_cases h2 : 6 < v.day
              · have d2 := decide_eq_true h2
                have hno := Lib.hid (show ¬ daysMay r from fun h => by have hd := h.1 v (List.mem_of_getElem? HX.out); unfold dayOne at hd; omega)
                clear h1 h2
                go_wp2_with fail
                go_ret
                exact ⟨ret_f hno.out, HBo.out _⟩
              · have d2 := decide_eq_false h2
                by_cases h3 : v.n < -5
                · have d3 := decide_eq_true h3
                  have hno := Lib.hid (show ¬ daysMay r from fun h => by have hd := h.1 v (List.mem_of_getElem? HX.out); unfold dayOne at hd; omega)
                  clear h1 h2 h3
                  go_wp2_with fail
                  go_ret
                  exact ⟨ret_f hno.out, HBo.out _⟩
                · have d3 := decide_eq_false h3
                  by_cases h4 : 5 < v.n
                  · have d4 := decide_eq_true h4
                    have hno := Lib.hid (show ¬ daysMay r from fun h => by have hd := h.1 v (List.mem_of_getElem? HX.out); unfold dayOne at hd; omega)
                    clear h1 h2 h3 h4
                    go_wp2_with fail
                    go_ret
                    exact ⟨ret_f hno.out, HBo.out _⟩
                  · have d4 := decide_eq_false h4
                    by_cases h5 : v.n = 0
                    · have b5 : (v.n == 0) = true := by simpa using h5
                      have c5 : (v.n != 0) = false := by simp [h5]
                      have I2 := Lib.hid (show ∀ (i : Nat) z, i < k + 1 → r.byDay[i]? = some z → dayOne r z from fun i z hi hz => by
                        by_cases e : i = k
                        · subst e
                          rw [HX.out] at hz; cases hz
                          exact ⟨by omega, by omega, by omega, by omega, .inl h5⟩
                        · exact I.out i z (by omega) hz)
                      clear h1 h2 h3 h4
                      go_wp2_with fail
                      go_roundw
                      case measure => simp [intOf]; omega
                      case rel => exact ⟨k + 1, by omega, by go_num, fun j => (World.cell?_alloc_lt _ _ _ hz).trans (kA j), by simp; omega, HBo.out _, I2.out⟩
                    · have b5 : (v.n == 0) = false := by simpa using h5
                      have c5 : (v.n != 0) = true := by simp [h5]
                      have I2 := Lib.hid (show ∀ (i : Nat) z, i < k + 1 → r.byDay[i]? = some z → dayOne r z from fun i z hi hz => by
                        by_cases e : i = k
                        · subst e
                          rw [HX.out] at hz; cases hz
                          exact ⟨by omega, by omega, by omega, by omega, .inr hnt.out⟩
                        · exact I.out i z (by omega) hz)
                      clear h1 h2 h3 h4
                      go_wp2_with fail
                      go_roundw
                      case measure => simp [intOf]; omega
                      case rel => exact ⟨k + 1, by omega, by go_num, fun j => (World.cell?_alloc_lt _ _ _ hz).trans (kA j), by simp; omega, HBo.out _, I2.out⟩
          · obtain rfl : ny = k := by omega
            have hall : ∀ d ∈ r.byDay, dayOne r d := fun d hd => by
              obtain ⟨i, hi, rfl⟩ := List.getElem_of_mem hd
              exact I.out i _ (by have := L.out; omega) (List.getElem?_eq_getElem hi)
            have HALL := Lib.hid hall
            clear hall
            go_wp2_with fail
            (with_reducible refine (C.out _ HBw.out).mono ?_)
            rintro e w1 ⟨rfl, hb1⟩
            have HB1 := Lib.hid (below_call HBw.out hb1)
            clear hb1
            go_wp2_with fail
            go_ret
            refine ⟨?_, HB1.out⟩
            by_cases hr : risesDay r.byDay
            · rw [dec_t hr]; exact ret_t ⟨HALL.out, hr⟩
            · rw [dec_f hr]; exact ret_f fun h => hr h.2
      · have d3 : ¬ (0 : Int) < (nm : Int) := by omega
        have e3 := decide_eq_false d3
        have f3 : decide (0 < nm) = false := decide_eq_false g3
        have hnt := Lib.hid (show ¬ nthMay r from fun h => h.elim g1 fun h => by have := h.2; rw [LM.out] at this; omega)
        clear g1 g2
        go_enter Tryz.func46, Tryz.ntmps46
        go_wp2_with fail
        go_loopw [23] (fun b wr => ∃ k : Nat, k ≤ ny ∧ b = .int .i64 (k : Nat) ∧ (∀ j, World.cell? wr ⟨w.heap.size, j, none⟩ = World.cell? (w.alloc (.cells #[.int .i64 r.freq, .int .i64 r.interval, .int .i64 r.count, .int .i64 r.until_, .slice om nm cm, .slice od nd cd, .slice oy ny cy, .slice op np cp, .int .i64 r.start] 28)) ⟨w.heap.size, j, none⟩) ∧ w.heap.size < wr.heap.size ∧ Hid (Below w.heap.size w wr) ∧ Hid (∀ (i : Nat) x, i < k → r.byDay[i]? = some x → dayOne r x)) (fun b _ => ny - (intOf b).toNat)
        case atStart => exact ⟨0, Nat.zero_le _, rfl, fun _ => rfl, by simp, HB.out, fun i x h => absurd h (Nat.not_lt_zero _)⟩
        case round =>
          obtain ⟨k, hk, rfl, kA, hz, HBw, I⟩ := hrel
          obtain ⟨wl, rfl⟩ : ∃ x, x = wr := ⟨_, rfl⟩
          by_cases hlt : k < ny
          · have hlt' : (k : Int) < (ny : Int) := by omega
            obtain ⟨v, a1, cs1, hx, rfl, q1, ⟨rfl, _, _⟩, q0, q0'⟩ := S.out.elem HBw.out k hlt
            have e0 := q0 (by decide)
            have e1 := q0' 1 (by decide) (by decide)
            simp only [List.getElem?_cons_zero, List.getElem?_cons_succ] at e0 e1
            have HX := Lib.hid hx
            have HBo := Lib.hid (fun (o : Obj) => HBw.out.alloc (Nat.le_of_lt hz) o)
            clear q0 q0' q1 hx
            by_cases h1 : v.day < 0
            · have d1 := decide_eq_true h1
              have hno := Lib.hid (show ¬ daysMay r from fun h => by have hd := h.1 v (List.mem_of_getElem? HX.out); unfold dayOne at hd; omega)
              clear h1
              go_wp2_with fail
              go_ret
              exact ⟨ret_f hno.out, HBo.out _⟩
            · have d1 := decide_eq_false h1
              by_cases h2 : 6 < v.day
              · have d2 := decide_eq_true h2
                have hno := Lib.hid (show ¬ daysMay r from fun h => by have hd := h.1 v (List.mem_of_getElem? HX.out); unfold dayOne at hd; omega)
                clear h1 h2
                go_wp2_with fail
                go_ret
                exact ⟨ret_f hno.out, HBo.out _⟩
              · have d2 := decide_eq_false h2
                by_cases h3 : v.n < -5
                · have d3 := decide_eq_true h3
                  have hno := Lib.hid (show ¬ daysMay r from fun h => by have hd := h.1 v (List.mem_of_getElem? HX.out); unfold dayOne at hd; omega)
                  clear h1 h2 h3
                  go_wp2_with fail
                  go_ret
                  exact ⟨ret_f hno.out, HBo.out _⟩
                · have d3 := decide_eq_false h3
                  by_cases h4 : 5 < v.n
                  · have d4 := decide_eq_true h4
                    have hno := Lib.hid (show ¬ daysMay r from fun h => by have hd := h.1 v (List.mem_of_getElem? HX.out); unfold dayOne at hd; omega)
                    clear h1 h2 h3 h4
                    go_wp2_with fail
                    go_ret
                    exact ⟨ret_f hno.out, HBo.out _⟩
                  · have d4 := decide_eq_false h4
                    by_cases h5 : v.n = 0
                    · have b5 : (v.n == 0) = true := by simpa using h5
                      have c5 : (v.n != 0) = false := by simp [h5]
                      have I2 := Lib.hid (show ∀ (i : Nat) z, i < k + 1 → r.byDay[i]? = some z → dayOne r z from fun i z hi hz => by
                        by_cases e : i = k
                        · subst e
                          rw [HX.out] at hz; cases hz
                          exact ⟨by omega, by omega, by omega, by omega, .inl h5⟩
                        · exact I.out i z (by omega) hz)
                      clear h1 h2 h3 h4
                      go_wp2_with fail
                      go_roundw
                      case measure => simp [intOf]; omega
                      case rel => exact ⟨k + 1, by omega, by go_num, fun j => (World.cell?_alloc_lt _ _ _ hz).trans (kA j), by simp; omega, HBo.out _, I2.out⟩
                    · have b5 : (v.n == 0) = false := by simpa using h5
                      have c5 : (v.n != 0) = true := by simp [h5]
                      have hno := Lib.hid (show ¬ daysMay r from fun h => by have hd := h.1 v (List.mem_of_getElem? HX.out); unfold dayOne at hd; exact hd.2.2.2.2.elim h5 hnt.out)
                      clear h1 h2 h3 h4
                      go_wp2_with fail
                      go_ret
                      exact ⟨ret_f hno.out, HBo.out _⟩
          · obtain rfl : ny = k := by omega
            have hall : ∀ d ∈ r.byDay, dayOne r d := fun d hd => by
              obtain ⟨i, hi, rfl⟩ := List.getElem_of_mem hd
              exact I.out i _ (by have := L.out; omega) (List.getElem?_eq_getElem hi)
            have HALL := Lib.hid hall
            clear hall
            go_wp2_with fail
            (with_reducible refine (C.out _ HBw.out).mono ?_)
            rintro e w1 ⟨rfl, hb1⟩
            have HB1 := Lib.hid (below_call HBw.out hb1)
            clear hb1
            go_wp2_with fail
            go_ret
            refine ⟨?_, HB1.out⟩
            by_cases hr : risesDay r.byDay
            · rw [dec_t hr]; exact ret_t ⟨HALL.out, hr⟩
            · rw [dec_f hr]; exact ret_f fun h => hr h.2
    · have b2 : (r.freq == 4) = false := by simpa using g2
      have hnt := Lib.hid (show ¬ nthMay r from fun h => h.elim g1 fun h => g2 h.1)
      clear g1 g2
      go_enter Tryz.func46, Tryz.ntmps46
      go_wp2_with fail
      go_loopw [23] (fun b wr => ∃ k : Nat, k ≤ ny ∧ b = .int .i64 (k : Nat) ∧ (∀ j, World.cell? wr ⟨w.heap.size, j, none⟩ = World.cell? (w.alloc (.cells #[.int .i64 r.freq, .int .i64 r.interval, .int .i64 r.count, .int .i64 r.until_, .slice om nm cm, .slice od nd cd, .slice oy ny cy, .slice op np cp, .int .i64 r.start] 28)) ⟨w.heap.size, j, none⟩) ∧ w.heap.size < wr.heap.size ∧ Hid (Below w.heap.size w wr) ∧ Hid (∀ (i : Nat) x, i < k → r.byDay[i]? = some x → dayOne r x)) (fun b _ => ny - (intOf b).toNat)
      case atStart => exact ⟨0, Nat.zero_le _, rfl, fun _ => rfl, by simp, HB.out, fun i x h => absurd h (Nat.not_lt_zero _)⟩
      case round =>
        obtain ⟨k, hk, rfl, kA, hz, HBw, I⟩ := hrel
        obtain ⟨wl, rfl⟩ : ∃ x, x = wr := ⟨_, rfl⟩
        by_cases hlt : k < ny
        · have hlt' : (k : Int) < (ny : Int) := by omega
          obtain ⟨v, a1, cs1, hx, rfl, q1, ⟨rfl, _, _⟩, q0, q0'⟩ := S.out.elem HBw.out k hlt
          have e0 := q0 (by decide)
          have e1 := q0' 1 (by decide) (by decide)
          simp only [List.getElem?_cons_zero, List.getElem?_cons_succ] at e0 e1
          have HX := Lib.hid hx
          have HBo := Lib.hid (fun (o : Obj) => HBw.out.alloc (Nat.le_of_lt hz) o)
          clear q0 q0' q1 hx
          by_cases h1 : v.day < 0
          · have d1 := decide_eq_true h1
            have hno := Lib.hid (show ¬ daysMay r from fun h => by have hd := h.1 v (List.mem_of_getElem? HX.out); unfold dayOne at hd; omega)
            clear h1
            go_wp2_with fail
            go_ret
            exact ⟨ret_f hno.out, HBo.out _⟩
          · have d1 := decide_eq_false h1
            by_cases h2 : 6 < v.day
            · have d2 := decide_eq_true h2
              have hno := Lib.hid (show ¬ daysMay r from fun h => by have hd := h.1 v (List.mem_of_getElem? HX.out); unfold dayOne at hd; omega)
              clear h1 h2
              go_wp2_with fail
              go_ret
              exact ⟨ret_f hno.out, HBo.out _⟩
            · have d2 := decide_eq_false h2
              by_cases h3 : v.n < -5
              · have d3 := decide_eq_true h3
                have hno := Lib.hid (show ¬ daysMay r from fun h => by have hd := h.1 v (List.mem_of_getElem? HX.out); unfold dayOne at hd; omega)
                clear h1 h2 h3
                go_wp2_with fail
                go_ret
                exact ⟨ret_f hno.out, HBo.out _⟩
              · have d3 := decide_eq_false h3
                by_cases h4 : 5 < v.n
                · have d4 := decide_eq_true h4
                  have hno := Lib.hid (show ¬ daysMay r from fun h => by have hd := h.1 v (List.mem_of_getElem? HX.out); unfold dayOne at hd; omega)
                  clear h1 h2 h3 h4
                  go_wp2_with fail
                  go_ret
                  exact ⟨ret_f hno.out, HBo.out _⟩
                · have d4 := decide_eq_false h4
                  by_cases h5 : v.n = 0
                  · have b5 : (v.n == 0) = true := by simpa using h5
                    have c5 : (v.n != 0) = false := by simp [h5]
                    have I2 := Lib.hid (show ∀ (i : Nat) z, i < k + 1 → r.byDay[i]? = some z → dayOne r z from fun i z hi hz => by
                      by_cases e : i = k
                      · subst e
                        rw [HX.out] at hz; cases hz
                        exact ⟨by omega, by omega, by omega, by omega, .inl h5⟩
                      · exact I.out i z (by omega) hz)
                    clear h1 h2 h3 h4
                    go_wp2_with fail
                    go_roundw
                    case measure => simp [intOf]; omega
                    case rel => exact ⟨k + 1, by omega, by go_num, fun j => (World.cell?_alloc_lt _ _ _ hz).trans (kA j), by simp; omega, HBo.out _, I2.out⟩
                  · have b5 : (v.n == 0) = false := by simpa using h5
                    have c5 : (v.n != 0) = true := by simp [h5]
                    have hno := Lib.hid (show ¬ daysMay r from fun h => by have hd := h.1 v (List.mem_of_getElem? HX.out); unfold dayOne at hd; exact hd.2.2.2.2.elim h5 hnt.out)
                    clear h1 h2 h3 h4
                    go_wp2_with fail
                    go_ret
                    exact ⟨ret_f hno.out, HBo.out _⟩
        · obtain rfl : ny = k := by omega
          have hall : ∀ d ∈ r.byDay, dayOne r d := fun d hd => by
            obtain ⟨i, hi, rfl⟩ := List.getElem_of_mem hd
            exact I.out i _ (by have := L.out; omega) (List.getElem?_eq_getElem hi)
          have HALL := Lib.hid hall
          clear hall
          go_wp2_with fail
          (with_reducible refine (C.out _ HBw.out).mono ?_)
          rintro e w1 ⟨rfl, hb1⟩
          have HB1 := Lib.hid (below_call HBw.out hb1)
          clear hb1
          go_wp2_with fail
          go_ret
          refine ⟨?_, HB1.out⟩
          by_cases hr : risesDay r.byDay
          · rw [dec_t hr]; exact ret_t ⟨HALL.out, hr⟩
          · rw [dec_f hr]; exact ret_f fun h => hr h.2
end Go.Proofs.YtcleicjgeflbnaaGreat
