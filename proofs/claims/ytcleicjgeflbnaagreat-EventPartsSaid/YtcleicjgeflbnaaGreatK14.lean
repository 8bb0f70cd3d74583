/- recur.Between: the walk. Conditions: the rule reads, its rows are not too long. -/
import Derived.Test.YtcleicjgeflbnaaGreatK13
namespace Go.Proofs.YtcleicjgeflbnaaGreat
open Go.RowKit Go.ChangeShapes Go.WideShapes Go.Deep
set_option linter.all false
attribute [local go_sem] Oper.semAt_some

theorem results_cells2 {fn : Func} {p q : Tmp} {ty ty2 : TypeId} (h : fn.results = #[.cell p ty, .cell q ty2]) (tmps : Array Value) (P : Program) (w : World) :
    (results fn tmps).run P w =
      ((asAddr (tmps.getD p undef)).run P w).andThen fun a w₁ => ((loadVar ty a).run P w₁).andThen fun v w₂ => ((asAddr (tmps.getD q undef)).run P w₂).andThen fun b w₃ => ((loadVar ty2 b).run P w₃).andThen fun u w₄ => .ok (.tuple #[v, u]) w₄ := by
  simp only [results, h]
  simp [Sem.run_bind, Result.andThen]
theorem bet_results (tmps : Array Value) (W : World) (a b : Nat) (o : Option Addr) (n c : Nat) (x : Bool) (hp : tmps.getD 10 undef = .pointer (some ⟨a, 0, none⟩)) (hq : tmps.getD 11 undef = .pointer (some ⟨b, 0, none⟩))
    (ha : W.heap[a]? = some (.cells #[.slice o n c] 29 (0, 0))) (hb : W.heap[b]? = some (.cells #[.bool x] 4 (0, 0))) : (results Tryz.f51 tmps).run Tryz.prog W = .ok (.tuple #[.slice o n c, .bool x]) W := by
  have ha' : W.cell? ⟨a, 0, none⟩ = some (.slice o n c) := by rw [cell_of_row _ _ _ _ _ _ ha]; rfl
  have hb' : W.cell? ⟨b, 0, none⟩ = some (.bool x) := by rw [cell_of_row _ _ _ _ _ _ hb]; rfl
  have hl : (loadVar 29 ⟨a, 0, none⟩).run Tryz.prog W = .ok (.slice o n c) W := by
    go_simp
  have hl2 : (loadVar 4 ⟨b, 0, none⟩).run Tryz.prog W = .ok (.bool x) W := by
    go_simp
  rw [results_cells2 rfl, hp, hq]
  simp [asAddr, hl, hl2, Result.andThen]
def BetEnd (r : RuleD) (start from_ to_ most : Int) (w : World) (e : Ending) (w' : World) : Prop :=
  ∃ v, e = .returned (.tuple #[v, .bool (betweenF r start from_ to_ most).2]) ∧ w'.ownsRow w.heap.size 2 1 v (betweenF r start from_ to_ most).1.length (inC (betweenF r start from_ to_ most).1) ∧ Below w.heap.size w w'

/-- What Between lays into what it hands back. -/
theorem fill2_spec (W : World) (a : Nat) (v v0 : Value) (b z : Bool) (hZ : W.heap[a]? = some (.cells #[v0] 29 (0, 0))) (hK : W.heap[a + 1]? = some (.cells #[.bool z] 4 (0, 0))) :
    ((W.setCell ⟨a, 0, none⟩ v).setCell ⟨a + 1, 0, none⟩ (.bool b)).heap[a]? = some (.cells #[v] 29 (0, 0)) ∧ ((W.setCell ⟨a, 0, none⟩ v).setCell ⟨a + 1, 0, none⟩ (.bool b)).heap[a + 1]? = some (.cells #[.bool b] 4 (0, 0)) ∧
      (∀ k, k ≠ a → k ≠ a + 1 → ((W.setCell ⟨a, 0, none⟩ v).setCell ⟨a + 1, 0, none⟩ (.bool b)).heap[k]? = W.heap[k]?) ∧
      ((W.setCell ⟨a, 0, none⟩ v).setCell ⟨a + 1, 0, none⟩ (.bool b)).heap.size = W.heap.size := by
  have o : ∀ (k b j : Nat) (u : Value) (X : World), k ≠ b → (X.setCell ⟨b, j, none⟩ u).heap[k]? = X.heap[k]? := fun k b j u X h => Below.heap_setCell _ _ _ _ h
  have g1 : (W.setCell ⟨a, 0, none⟩ v).heap[a]? = some (.cells #[v] 29 (0, 0)) := heap_setCell_same _ _ 0 _ _ _ hZ
  have g2 : (W.setCell ⟨a, 0, none⟩ v).heap[a + 1]? = some (.cells #[.bool z] 4 (0, 0)) := (o _ _ _ _ _ (by omega)).trans hK
  refine ⟨(o _ _ _ _ _ (by omega)).trans g1, heap_setCell_same _ _ 0 _ _ _ g2, fun k h1 h2 => (o _ _ _ _ _ h2).trans (o _ _ _ _ _ h1), by simp [World.setCell]⟩
theorem own_slice {w : World} {B : Nat} {e : TypeId} {sz : Nat} {v : Value} {n : Nat} {xs : List Value} (h : w.ownsRow B e sz v n xs) : ∃ o m c, v = .slice o m c := by
  obtain ⟨h1, h2 | ⟨g, cap, cur, e, _⟩⟩ := h
  · exact ⟨_, _, _, h2.1⟩
  · exact ⟨_, _, _, e⟩
theorem own_same {W W' : World} {B : Nat} {e : TypeId} {z n : Nat} {v : Value} {xs : List Value} (h : W.ownsRow B e z v n xs) (hk : ∀ k, v.ownBlock = some k → W'.heap[k]? = W.heap[k]?) : W'.ownsRow B e z v n xs := by
  obtain ⟨h1, h2 | ⟨g, cap, cur, e, a1, a2, a3⟩⟩ := h
  · exact ⟨h1, .inl h2⟩
  · subst e
    exact ⟨h1, .inr ⟨g, cap, cur, rfl, a1, (hk g rfl).trans a2, a3⟩⟩
/-- How Between ends. -/
theorem bet_ends {r : RuleD} {start from_ to_ most : Int} {tmps : Array Value} {w W : World} {a : Nat} {xs : List Int} {ok : Bool} {v : Value} {B : Nat} (Ds : List Nat) (hxs : betweenF r start from_ to_ most = (xs, ok))
    (hp : tmps.getD 10 undef = .pointer (some ⟨a, 0, none⟩)) (hq : tmps.getD 11 undef = .pointer (some ⟨a + 1, 0, none⟩)) (ha : W.heap[a]? = some (.cells #[v] 29 (0, 0))) (hb : W.heap[a + 1]? = some (.cells #[.bool ok] 4 (0, 0)))
    (ho : W.ownsRow B 2 1 v xs.length (inC xs)) (hB : w.heap.size ≤ B) (hbel : Below w.heap.size w W) (hn : Ds.Nodup) (hD : ∀ D ∈ Ds, W.heap[D]? = some (.deferred (some []))) (hDa : a ∉ Ds ∧ a + 1 ∉ Ds) (hDw : ∀ D ∈ Ds, w.heap.size ≤ D) (hDv : ∀ k, v.ownBlock = some k → k ∉ Ds) :
    bodyPostM Fence.wide 5 Tryz.prog Tryz.f51 (BetEnd r start from_ to_ most w) Exit.ret { tmps := tmps, defers := Ds.map markOf } W := by
  obtain ⟨o, m, c, rfl⟩ := own_slice ho
  refine leaves_marks (by simp) Ds W hn hD (fun W' k1 k2 k3 k4 k5 => ⟨_, bet_results tmps W' a (a + 1) o m c ok hp hq ((k1 _ hDa.1).trans ha) ((k1 _ hDa.2).trans hb), ⟨.slice o m c, by rw [hxs], ?_, ?_⟩⟩)
  · rw [hxs]
    exact own_base (own_same ho (fun k hk => k1 k (hDv k hk))) hB
  · exact hbel.trans ⟨k2, k3, k4, k5, fun k hk => k1 k (fun h => by have := hDw k h; omega)⟩

set_option maxRecDepth 100000 in
set_option maxHeartbeats 8000000 in
theorem between_no (cs : List Value) (r : RuleD) (start from_ to_ most : Int) (w : World) (h : rRule w cs r) (hf : fewR r) (hno : ¬ (mayR r ∧ startOk start) ∨ to_ ≤ from_ ∨ to_ ≤ start) :
    CallsIn Fence.wide 5 Tryz.prog 51 #[.agg cs.toArray, .int .i64 start, .int .i64 from_, .int .i64 to_, .int .i64 most] w (BetEnd r start from_ to_ most w) := by
  have SR := Lib.hid h
  obtain ⟨m, d, y, p, rfl, -, -, -, -, -, hm, hd, hy, hp⟩ := h
  obtain ⟨om, nm, cm, rfl, lm, -, -, RM⟩ := hm.open
  obtain ⟨od, nd, cd, rfl, ld, -, -, RD⟩ := hd.open
  obtain ⟨oy, ny, cy, rfl, ly, -, -, RY⟩ := hy.open
  obtain ⟨op, np, cp, rfl, lp, -, -, RP⟩ := hp.open
  clear hm hd hy hp RM RD RY RP lm ld ly lp
  obtain ⟨W6, hW6⟩ : ∃ W6, W6 = ((((((w.alloc (.cells #[.int .i64 r.freq, .int .i64 r.interval, .int .i64 r.count, .int .i64 r.until_, .slice om nm cm, .slice od nd cd, .slice oy ny cy, .slice op np cp, .int .i64 r.start] 28)).alloc (.cells #[.int .i64 from_] 2)).alloc (.cells #[.int .i64 to_] 2)).alloc (.cells #[.int .i64 most] 3)).alloc (.cells #[.slice none 0 0] 29)).alloc (.cells #[.bool false] 4)) := ⟨_, rfl⟩
  have hs6 : W6.heap.size = w.heap.size + 6 := by rw [hW6]; simp
  have hp6 : W6.heap = w.heap ++ #[.cells #[.int .i64 r.freq, .int .i64 r.interval, .int .i64 r.count, .int .i64 r.until_, .slice om nm cm, .slice od nd cd, .slice oy ny cy, .slice op np cp, .int .i64 r.start] 28, .cells #[.int .i64 from_] 2, .cells #[.int .i64 to_] 2, .cells #[.int .i64 most] 3, .cells #[.slice none 0 0] 29, .cells #[.bool false] 4] := by
    rw [hW6]
    show (((((w.heap.push _).push _).push _).push _).push _).push _ = _
    apply Array.ext'
    simp
  have g6 : ∀ (j : Nat), W6.heap[w.heap.size + j]? = (#[Obj.cells #[.int .i64 r.freq, .int .i64 r.interval, .int .i64 r.count, .int .i64 r.until_, .slice om nm cm, .slice od nd cd, .slice oy ny cy, .slice op np cp, .int .i64 r.start] 28, .cells #[.int .i64 from_] 2, .cells #[.int .i64 to_] 2, .cells #[.int .i64 most] 3, .cells #[.slice none 0 0] 29, .cells #[.bool false] 4] : Array Obj)[j]? := fun j => by
    rw [hp6, Array.getElem?_append_right (by omega)]; congr 1; omega
  have b6 : Below w.heap.size w W6 := by rw [hW6]; exact belowA _ (belowA _ (belowA _ (belowA _ (belowA _ (belowA _ (Below.refl _ _))))))
  have HE := Lib.hid (show betweenF r start from_ to_ most = ([], true) by
    unfold betweenF
    rw [if_pos]
    rcases hno with h | h
    · exact .inl (dec_f h)
    · exact .inr h)
  have HG := Lib.hid g6; have HB6 := Lib.hid b6
  by_cases hyes : mayR r ∧ startOk start
  · have WK := Lib.hid (walk_yes _ r start W6 (SR.out.later b6) hf hyes.1 hyes.2)
    have hno2 : to_ ≤ from_ ∨ to_ ≤ start := hno.elim (fun h => absurd hyes h) id
    unfold startOk at hyes
    clear hno hp6 b6 g6 hf
    by_cases h1 : to_ ≤ from_
    all_goals
      first
        | (have d1 : decide (to_ ≤ from_) = true := decide_eq_true h1)
        | (have d1 : decide (to_ ≤ from_) = false := decide_eq_false h1; have h2 : to_ ≤ start := hno2.elim (fun h => absurd h h1) id; have d2 := decide_eq_true h2)
      clear hno2
      refine callsIn_of_wp_marks Tryz.func51 rfl trivial ?_ rfl
      simp only [Tryz.ntmps51, List.size_toArray, List.length_cons, List.length_nil, Nat.reduceAdd, Nat.reduceSub, Array.replicate_succ, Array.replicate_zero, List.push_toArray, List.append_toArray, List.nil_append, List.cons_append]
      gi_wp2
      refine ⟨trivial, ?_⟩
      rw [← hW6]
      refine (callsIn_wide.2 WK.out).mono ?_
      rintro e w1 ⟨bk, rfl, hbk, -, hb1⟩
      have HB1 := Lib.hid hb1
      have gR : w1.heap[w.heap.size + 1 + 1 + 1 + 1]? = some (.cells #[.slice none 0 0] 29 (0, 0)) := (hb1.block _ (by omega)).trans (HG.out 4)
      have gK : w1.heap[w.heap.size + 1 + 1 + 1 + 1 + 1]? = some (.cells #[.bool false] 4 (0, 0)) := (hb1.block _ (by omega)).trans (HG.out 5)
      have gF : w1.heap[w.heap.size + 1]? = some (.cells #[.int .i64 from_] 2 (0, 0)) := (hb1.block _ (by omega)).trans (HG.out 1)
      have gT : w1.heap[w.heap.size + 1 + 1]? = some (.cells #[.int .i64 to_] 2 (0, 0)) := (hb1.block _ (by omega)).trans (HG.out 2)
      have kR : w1.cell? ⟨w.heap.size + 1 + 1 + 1 + 1, 0, none⟩ = some (.slice none 0 0) := by rw [cell_of_row _ _ _ _ _ _ gR]; rfl
      have kK : w1.cell? ⟨w.heap.size + 1 + 1 + 1 + 1 + 1, 0, none⟩ = some (.bool false) := by rw [cell_of_row _ _ _ _ _ _ gK]; rfl
      have kF : w1.cell? ⟨w.heap.size + 1, 0, none⟩ = some (.int .i64 from_) := by rw [cell_of_row _ _ _ _ _ _ gF]; rfl
      have kT : w1.cell? ⟨w.heap.size + 1 + 1, 0, none⟩ = some (.int .i64 to_) := by rw [cell_of_row _ _ _ _ _ _ gT]; rfl
      have fR : w1.frozen? ⟨w.heap.size + 1 + 1 + 1 + 1, 0, none⟩ = false := frozen_of_row _ _ _ _ _ gR
      have fK : w1.frozen? ⟨w.heap.size + 1 + 1 + 1 + 1 + 1, 0, none⟩ = false := frozen_of_row _ _ _ _ _ gK
      have GR := Lib.hid (And.intro gR gK)
      clear hb1 gR gK gF gT
      gi_wp2
      have F := fill2_spec w1 (w.heap.size + 1 + 1 + 1 + 1) (.slice none 0 0) _ true false GR.out.1 GR.out.2
      have hb := HB6.out.trans (HB1.out.mono HB6.out.size)
      exact bet_ends [] HE.out rfl rfl F.1 F.2.1 (B := w.heap.size) (World.ownsRow_nil _ _ _ _) (Nat.le_refl _) ((hb.setCell (by simp <;> omega) _).setCell (by simp <;> omega) _) (by simp) (by simp) (by simp) (by simp) (by simp)
  · have WK := Lib.hid (walk_no _ r start W6 (SR.out.later b6) hf hyes)
    clear hno hyes hp6 b6 g6 hf
    refine callsIn_of_wp_marks Tryz.func51 rfl trivial ?_ rfl
    simp only [Tryz.ntmps51, List.size_toArray, List.length_cons, List.length_nil, Nat.reduceAdd, Nat.reduceSub, Array.replicate_succ, Array.replicate_zero, List.push_toArray, List.append_toArray, List.nil_append, List.cons_append]
    gi_wp2
    refine ⟨trivial, ?_⟩
    rw [← hW6]
    refine (callsIn_wide.2 WK.out).mono ?_
    rintro e w1 ⟨rfl, hb1⟩
    have HB1 := Lib.hid hb1
    have gR : w1.heap[w.heap.size + 1 + 1 + 1 + 1]? = some (.cells #[.slice none 0 0] 29 (0, 0)) := (hb1.block _ (by omega)).trans (HG.out 4)
    have gK : w1.heap[w.heap.size + 1 + 1 + 1 + 1 + 1]? = some (.cells #[.bool false] 4 (0, 0)) := (hb1.block _ (by omega)).trans (HG.out 5)
    have kR : w1.cell? ⟨w.heap.size + 1 + 1 + 1 + 1, 0, none⟩ = some (.slice none 0 0) := by rw [cell_of_row _ _ _ _ _ _ gR]; rfl
    have kK : w1.cell? ⟨w.heap.size + 1 + 1 + 1 + 1 + 1, 0, none⟩ = some (.bool false) := by rw [cell_of_row _ _ _ _ _ _ gK]; rfl
    have fR : w1.frozen? ⟨w.heap.size + 1 + 1 + 1 + 1, 0, none⟩ = false := frozen_of_row _ _ _ _ _ gR
    have fK : w1.frozen? ⟨w.heap.size + 1 + 1 + 1 + 1 + 1, 0, none⟩ = false := frozen_of_row _ _ _ _ _ gK
    have GR := Lib.hid (And.intro gR gK)
    clear hb1 gR gK
    gi_wp2
    have F := fill2_spec w1 (w.heap.size + 1 + 1 + 1 + 1) (.slice none 0 0) _ true false GR.out.1 GR.out.2
    have hb := HB6.out.trans (HB1.out.mono HB6.out.size)
    exact bet_ends [] HE.out rfl rfl F.1 F.2.1 (B := w.heap.size) (World.ownsRow_nil _ _ _ _) (Nat.le_refl _) ((hb.setCell (by simp <;> omega) _).setCell (by simp <;> omega) _) (by simp) (by simp) (by simp) (by simp) (by simp)
end Go.Proofs.YtcleicjgeflbnaaGreat
