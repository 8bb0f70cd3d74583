/- The chapter's example as a rule; what Read hands back. No condition. -/
import Derived.Test.YtcleicjgeflbnaaGreatDoorV11
import Derived.Test.YtcleicjgeflbnaaGreatDoorS9
import Derived.Laws.ResultCell
namespace Go.Proofs.YtcleicjgeflbnaaGreatDoor
open Go.RowKit Go.ChangeShapes Go.WideShapes Go.Deep
set_option linter.all false

/-- The chapter's example. -/
def exR : RuleD := { freq := 3, interval := 1, count := 0, until_ := -1, byMonth := [], byMonthDay := [], byDay := [⟨-1, 4⟩], bySetPos := [], start := 0 }
theorem ex_text : toB (textR shortT exR) = exS := by
  have h : textR shortT exR = exS.data.toList := by decide +kernel
  rw [h, toB_of]
theorem ex_may : mayR exR := by
  refine ⟨by decide, by decide, by decide, by decide, ⟨by decide, by decide, .inl rfl⟩, nil_rowMay _ _, nil_rowMay _ _, .inr rfl, ⟨fun d hd => ?_, fun i a b h1 h2 => ?_⟩, nil_rowMay _ _, .inr rfl, by decide, by decide⟩
  · have : d = ⟨-1, 4⟩ := by simpa [exR] using hd
    subst this
    exact ⟨by decide, by decide, by decide, by decide, .inr (by unfold nthMay; decide)⟩
  · simp [exR] at h2
theorem ex_few : fewR exR := ⟨by decide, by decide, by decide, by decide⟩
theorem nil_row {α : Type} (w : World) (k : Nat) (R : List Value → α → Prop) : Row w k R (.slice none 0 0) [] :=
  ⟨none, 0, 0, rfl, fun _ => rfl, rfl, Nat.le_refl _, by unfold maxLen; omega, fun i x h => by simp at h⟩
theorem ex_row {W : World} {B : Nat} {v : Value} (h : W.ownsRow B 36 2 v 1 (dnC [⟨-1, 4⟩])) : Row W 2 rDayN v [⟨-1, 4⟩] := by
  have hc := h
  obtain ⟨h1, h2 | ⟨g, cap, cur, rfl, a1, a2, a3, a4, a5, a6⟩⟩ := h
  · exact absurd h2.2 (by omega)
  · refine ⟨some ⟨g, 0, none⟩, 1, cap, rfl, (fun e => (by cases e)), rfl, a3, a4, fun i x hx => ?_⟩
    match i, hx with
    | 0, hx =>
      simp at hx
      subst hx
      refine ⟨⟨g, 0, none⟩, [.int .i64 (-1), .int .i64 4], rfl, rfl, fun j hj => ?_, rfl, ⟨by decide, by decide⟩, ⟨by decide, by decide⟩⟩
      have := hc.cells (g := g) rfl j
      match j, hj with
      | 0, _ => exact this _ rfl
      | 1, _ => exact this _ rfl
    | (i + 1), hx => simp at hx
theorem ex_rel {W : World} {B : Nat} {v : Value} (h : W.ownsRow B 36 2 v 1 (dnC [⟨-1, 4⟩])) : rRule W (rule2 v).toList exR :=
  ⟨.slice none 0 0, .slice none 0 0, v, .slice none 0 0, rfl, ⟨by decide, by decide⟩, ⟨by decide, by decide⟩, ⟨by decide, by decide⟩, ⟨by decide, by decide⟩, ⟨by decide, by decide⟩, nil_row _ _ _, nil_row _ _ _, ex_row h, nil_row _ _ _⟩

theorem results_cells2 {fn : Func} {p q : Tmp} {ty ty2 : TypeId} (h : fn.results = #[.cell p ty, .cell q ty2]) (tmps : Array Value) (P : Program) (w : World) :
    (results fn tmps).run P w =
      ((asAddr (tmps.getD p undef)).run P w).andThen fun a w₁ => ((loadVar ty a).run P w₁).andThen fun v w₂ => ((asAddr (tmps.getD q undef)).run P w₂).andThen fun b w₃ => ((loadVar ty2 b).run P w₃).andThen fun u w₄ => .ok (.tuple #[v, u]) w₄ := by
  simp only [results, h]
  simp [Sem.run_bind, Result.andThen]
theorem read_results (tmps : Array Value) (W : World) (a b : Nat) (cs : Array Value) (x : Bool) (hp : tmps.getD 2 undef = .pointer (some ⟨a, 0, none⟩)) (hq : tmps.getD 3 undef = .pointer (some ⟨b, 0, none⟩))
    (ha : W.heap[a]? = some (.cells cs 26 (0, 0))) (h9 : cs.size = 9) (hb : W.heap[b]? = some (.cells #[.bool x] 4 (0, 0))) : (results Tryz.f8 tmps).run Tryz.prog W = .ok (.tuple #[.agg cs, .bool x]) W := by
  have hl := run_loadVar_row (P := Tryz.prog) W a 26 26 cs (0, 0) _ ha Tryz.underlying26 rfl (by rw [h9]; kernel_rfl)
  have hc : W.cell? ⟨b, 0, none⟩ = some (.bool x) := by rw [cell_of_row _ _ _ _ _ _ hb]; rfl
  have hl2 : (loadVar 4 ⟨b, 0, none⟩).run Tryz.prog W = .ok (.bool x) W := by
    go_simp
  rw [results_cells2 rfl, hp, hq]
  simp [asAddr, hl, hl2, Result.andThen]
/-- What Read lays into what it hands back. -/
def fillW (W : World) (a : Nat) (v : Value) : World := (((((((((W.setCell ⟨a, 0, none⟩ (.int .i64 3)).setCell ⟨a, 1, none⟩ (.int .i64 1)).setCell ⟨a, 2, none⟩ (.int .i64 0)).setCell ⟨a, 3, none⟩ (.int .i64 (-1))).setCell ⟨a, 4, none⟩ (.slice none 0 0)).setCell ⟨a, 5, none⟩ (.slice none 0 0)).setCell ⟨a, 6, none⟩ (v)).setCell ⟨a, 7, none⟩ (.slice none 0 0)).setCell ⟨a, 8, none⟩ (.int .i64 0)).setCell ⟨a + 1, 0, none⟩ (.bool true)
theorem fill_spec (W : World) (a : Nat) (v : Value) (hZ : W.heap[a]? = some (.cells zeroC 26 (0, 0))) (hK : W.heap[a + 1]? = some (.cells #[.bool false] 4 (0, 0))) :
    (fillW W a v).heap[a]? = some (.cells (rule2 v) 26 (0, 0)) ∧ (fillW W a v).heap[a + 1]? = some (.cells #[.bool true] 4 (0, 0)) ∧ (∀ k, k ≠ a → k ≠ a + 1 → (fillW W a v).heap[k]? = W.heap[k]?) ∧
      (fillW W a v).os = W.os ∧ (fillW W a v).tape = W.tape ∧ (fillW W a v).output = W.output ∧ (fillW W a v).heap.size = W.heap.size := by
  have o : ∀ (k b j : Nat) (u : Value) (X : World), k ≠ b → (X.setCell ⟨b, j, none⟩ u).heap[k]? = X.heap[k]? := fun k b j u X h => Below.heap_setCell _ _ _ _ h
  have p : ∀ (b j : Nat) (u : Value) (X : World), (X.setCell ⟨b, j, none⟩ u).os = X.os ∧ (X.setCell ⟨b, j, none⟩ u).tape = X.tape ∧ (X.setCell ⟨b, j, none⟩ u).output = X.output ∧ (X.setCell ⟨b, j, none⟩ u).heap.size = X.heap.size := fun b j u X => ⟨rfl, rfl, rfl, by simp [World.setCell]⟩
  obtain ⟨W0, e0⟩ : ∃ X, X = W.setCell ⟨a, 0, none⟩ (.int .i64 3) := ⟨_, rfl⟩
  have g0 : W0.heap[a]? = some (.cells #[.int .i64 3, .int .i64 0, .int .i64 0, .int .i64 0, .slice none 0 0, .slice none 0 0, .slice none 0 0, .slice none 0 0, .int .i64 0] 26 (0, 0)) := by rw [e0]; exact heap_setCell_same _ _ 0 _ _ _ hZ
  have k0 : W0.heap[a + 1]? = some (.cells #[.bool false] 4 (0, 0)) := by rw [e0, o _ _ _ _ _ (by omega)]; exact hK
  have r0 : ∀ k, k ≠ a → W0.heap[k]? = W.heap[k]? := fun k h => by rw [e0, o _ _ _ _ _ h]
  have q0 : W0.os = W.os ∧ W0.tape = W.tape ∧ W0.output = W.output ∧ W0.heap.size = W.heap.size := by rw [e0]; exact p _ _ _ _
  obtain ⟨W1, e1⟩ : ∃ X, X = W0.setCell ⟨a, 1, none⟩ (.int .i64 1) := ⟨_, rfl⟩
  have g1 : W1.heap[a]? = some (.cells #[.int .i64 3, .int .i64 1, .int .i64 0, .int .i64 0, .slice none 0 0, .slice none 0 0, .slice none 0 0, .slice none 0 0, .int .i64 0] 26 (0, 0)) := by rw [e1]; exact heap_setCell_same _ _ 1 _ _ _ g0
  have k1 : W1.heap[a + 1]? = some (.cells #[.bool false] 4 (0, 0)) := by rw [e1, o _ _ _ _ _ (by omega)]; exact k0
  have r1 : ∀ k, k ≠ a → W1.heap[k]? = W.heap[k]? := fun k h => by rw [e1, o _ _ _ _ _ h]; exact r0 k h
  have q1 : W1.os = W.os ∧ W1.tape = W.tape ∧ W1.output = W.output ∧ W1.heap.size = W.heap.size := by have h := p a 1 (.int .i64 1) W0; rw [← e1] at h; exact ⟨h.1.trans q0.1, h.2.1.trans q0.2.1, h.2.2.1.trans q0.2.2.1, h.2.2.2.trans q0.2.2.2⟩
  obtain ⟨W2, e2⟩ : ∃ X, X = W1.setCell ⟨a, 2, none⟩ (.int .i64 0) := ⟨_, rfl⟩
  have g2 : W2.heap[a]? = some (.cells #[.int .i64 3, .int .i64 1, .int .i64 0, .int .i64 0, .slice none 0 0, .slice none 0 0, .slice none 0 0, .slice none 0 0, .int .i64 0] 26 (0, 0)) := by rw [e2]; exact heap_setCell_same _ _ 2 _ _ _ g1
  have k2 : W2.heap[a + 1]? = some (.cells #[.bool false] 4 (0, 0)) := by rw [e2, o _ _ _ _ _ (by omega)]; exact k1
  have r2 : ∀ k, k ≠ a → W2.heap[k]? = W.heap[k]? := fun k h => by rw [e2, o _ _ _ _ _ h]; exact r1 k h
  have q2 : W2.os = W.os ∧ W2.tape = W.tape ∧ W2.output = W.output ∧ W2.heap.size = W.heap.size := by have h := p a 2 (.int .i64 0) W1; rw [← e2] at h; exact ⟨h.1.trans q1.1, h.2.1.trans q1.2.1, h.2.2.1.trans q1.2.2.1, h.2.2.2.trans q1.2.2.2⟩
  obtain ⟨W3, e3⟩ : ∃ X, X = W2.setCell ⟨a, 3, none⟩ (.int .i64 (-1)) := ⟨_, rfl⟩
  have g3 : W3.heap[a]? = some (.cells #[.int .i64 3, .int .i64 1, .int .i64 0, .int .i64 (-1), .slice none 0 0, .slice none 0 0, .slice none 0 0, .slice none 0 0, .int .i64 0] 26 (0, 0)) := by rw [e3]; exact heap_setCell_same _ _ 3 _ _ _ g2
  have k3 : W3.heap[a + 1]? = some (.cells #[.bool false] 4 (0, 0)) := by rw [e3, o _ _ _ _ _ (by omega)]; exact k2
  have r3 : ∀ k, k ≠ a → W3.heap[k]? = W.heap[k]? := fun k h => by rw [e3, o _ _ _ _ _ h]; exact r2 k h
  have q3 : W3.os = W.os ∧ W3.tape = W.tape ∧ W3.output = W.output ∧ W3.heap.size = W.heap.size := by have h := p a 3 (.int .i64 (-1)) W2; rw [← e3] at h; exact ⟨h.1.trans q2.1, h.2.1.trans q2.2.1, h.2.2.1.trans q2.2.2.1, h.2.2.2.trans q2.2.2.2⟩
  obtain ⟨W4, e4⟩ : ∃ X, X = W3.setCell ⟨a, 4, none⟩ (.slice none 0 0) := ⟨_, rfl⟩
  have g4 : W4.heap[a]? = some (.cells #[.int .i64 3, .int .i64 1, .int .i64 0, .int .i64 (-1), .slice none 0 0, .slice none 0 0, .slice none 0 0, .slice none 0 0, .int .i64 0] 26 (0, 0)) := by rw [e4]; exact heap_setCell_same _ _ 4 _ _ _ g3
  have k4 : W4.heap[a + 1]? = some (.cells #[.bool false] 4 (0, 0)) := by rw [e4, o _ _ _ _ _ (by omega)]; exact k3
  have r4 : ∀ k, k ≠ a → W4.heap[k]? = W.heap[k]? := fun k h => by rw [e4, o _ _ _ _ _ h]; exact r3 k h
  have q4 : W4.os = W.os ∧ W4.tape = W.tape ∧ W4.output = W.output ∧ W4.heap.size = W.heap.size := by have h := p a 4 (.slice none 0 0) W3; rw [← e4] at h; exact ⟨h.1.trans q3.1, h.2.1.trans q3.2.1, h.2.2.1.trans q3.2.2.1, h.2.2.2.trans q3.2.2.2⟩
  obtain ⟨W5, e5⟩ : ∃ X, X = W4.setCell ⟨a, 5, none⟩ (.slice none 0 0) := ⟨_, rfl⟩
  have g5 : W5.heap[a]? = some (.cells #[.int .i64 3, .int .i64 1, .int .i64 0, .int .i64 (-1), .slice none 0 0, .slice none 0 0, .slice none 0 0, .slice none 0 0, .int .i64 0] 26 (0, 0)) := by rw [e5]; exact heap_setCell_same _ _ 5 _ _ _ g4
  have k5 : W5.heap[a + 1]? = some (.cells #[.bool false] 4 (0, 0)) := by rw [e5, o _ _ _ _ _ (by omega)]; exact k4
  have r5 : ∀ k, k ≠ a → W5.heap[k]? = W.heap[k]? := fun k h => by rw [e5, o _ _ _ _ _ h]; exact r4 k h
  have q5 : W5.os = W.os ∧ W5.tape = W.tape ∧ W5.output = W.output ∧ W5.heap.size = W.heap.size := by have h := p a 5 (.slice none 0 0) W4; rw [← e5] at h; exact ⟨h.1.trans q4.1, h.2.1.trans q4.2.1, h.2.2.1.trans q4.2.2.1, h.2.2.2.trans q4.2.2.2⟩
  obtain ⟨W6, e6⟩ : ∃ X, X = W5.setCell ⟨a, 6, none⟩ (v) := ⟨_, rfl⟩
  have g6 : W6.heap[a]? = some (.cells #[.int .i64 3, .int .i64 1, .int .i64 0, .int .i64 (-1), .slice none 0 0, .slice none 0 0, v, .slice none 0 0, .int .i64 0] 26 (0, 0)) := by rw [e6]; exact heap_setCell_same _ _ 6 _ _ _ g5
  have k6 : W6.heap[a + 1]? = some (.cells #[.bool false] 4 (0, 0)) := by rw [e6, o _ _ _ _ _ (by omega)]; exact k5
  have r6 : ∀ k, k ≠ a → W6.heap[k]? = W.heap[k]? := fun k h => by rw [e6, o _ _ _ _ _ h]; exact r5 k h
  have q6 : W6.os = W.os ∧ W6.tape = W.tape ∧ W6.output = W.output ∧ W6.heap.size = W.heap.size := by have h := p a 6 (v) W5; rw [← e6] at h; exact ⟨h.1.trans q5.1, h.2.1.trans q5.2.1, h.2.2.1.trans q5.2.2.1, h.2.2.2.trans q5.2.2.2⟩
  obtain ⟨W7, e7⟩ : ∃ X, X = W6.setCell ⟨a, 7, none⟩ (.slice none 0 0) := ⟨_, rfl⟩
  have g7 : W7.heap[a]? = some (.cells #[.int .i64 3, .int .i64 1, .int .i64 0, .int .i64 (-1), .slice none 0 0, .slice none 0 0, v, .slice none 0 0, .int .i64 0] 26 (0, 0)) := by rw [e7]; exact heap_setCell_same _ _ 7 _ _ _ g6
  have k7 : W7.heap[a + 1]? = some (.cells #[.bool false] 4 (0, 0)) := by rw [e7, o _ _ _ _ _ (by omega)]; exact k6
  have r7 : ∀ k, k ≠ a → W7.heap[k]? = W.heap[k]? := fun k h => by rw [e7, o _ _ _ _ _ h]; exact r6 k h
  have q7 : W7.os = W.os ∧ W7.tape = W.tape ∧ W7.output = W.output ∧ W7.heap.size = W.heap.size := by have h := p a 7 (.slice none 0 0) W6; rw [← e7] at h; exact ⟨h.1.trans q6.1, h.2.1.trans q6.2.1, h.2.2.1.trans q6.2.2.1, h.2.2.2.trans q6.2.2.2⟩
  obtain ⟨W8, e8⟩ : ∃ X, X = W7.setCell ⟨a, 8, none⟩ (.int .i64 0) := ⟨_, rfl⟩
  have g8 : W8.heap[a]? = some (.cells #[.int .i64 3, .int .i64 1, .int .i64 0, .int .i64 (-1), .slice none 0 0, .slice none 0 0, v, .slice none 0 0, .int .i64 0] 26 (0, 0)) := by rw [e8]; exact heap_setCell_same _ _ 8 _ _ _ g7
  have k8 : W8.heap[a + 1]? = some (.cells #[.bool false] 4 (0, 0)) := by rw [e8, o _ _ _ _ _ (by omega)]; exact k7
  have r8 : ∀ k, k ≠ a → W8.heap[k]? = W.heap[k]? := fun k h => by rw [e8, o _ _ _ _ _ h]; exact r7 k h
  have q8 : W8.os = W.os ∧ W8.tape = W.tape ∧ W8.output = W.output ∧ W8.heap.size = W.heap.size := by have h := p a 8 (.int .i64 0) W7; rw [← e8] at h; exact ⟨h.1.trans q7.1, h.2.1.trans q7.2.1, h.2.2.1.trans q7.2.2.1, h.2.2.2.trans q7.2.2.2⟩
  have ef : fillW W a v = W8.setCell ⟨a + 1, 0, none⟩ (.bool true) := by unfold fillW; rw [e8, e7, e6, e5, e4, e3, e2, e1, e0]
  rw [ef]
  have h := p (a + 1) 0 (.bool true) W8
  refine ⟨by rw [o _ _ _ _ _ (by omega)]; exact g8, heap_setCell_same _ _ 0 _ _ (.bool true) k8, fun k h1 h2 => by rw [o _ _ _ _ _ h2]; exact r8 k h1, h.1.trans q8.1, h.2.1.trans q8.2.1, h.2.2.1.trans q8.2.2.1, h.2.2.2.trans q8.2.2.2⟩
end Go.Proofs.YtcleicjgeflbnaaGreatDoor
