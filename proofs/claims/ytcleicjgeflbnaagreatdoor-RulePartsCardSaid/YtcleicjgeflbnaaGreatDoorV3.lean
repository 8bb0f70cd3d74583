/- A range over an iterator that keeps what is left in a box of its own, by a caller whose rounds go on. Conditions: the rounds leave whatever lay from that box on. -/
import Derived.RangeFuncRecord
import Derived.Test.YtcleicjgeflbnaaGreatDoorV2
namespace Go.Proofs.YtcleicjgeflbnaaGreatDoor
open Go.RowKit Go.ChangeShapes Go.WideShapes Go.Deep
set_option linter.all false

/-- But for the iterator's box c and the loop's two blocks at B, whatever lay lies as it lay; the streams are as they were. -/
structure Turned (B c : Nat) (W W' : World) : Prop where
  os : W'.os = W.os
  tape : W'.tape = W.tape
  output : W'.output = W.output
  size : W.heap.size ≤ W'.heap.size
  block : ∀ k, k < W.heap.size → k ≠ c → k ≠ B → k ≠ B + 1 → W'.heap[k]? = W.heap[k]?
theorem Turned.alloc {B c : Nat} (W : World) (o : Obj) : Turned B c W (W.alloc o) :=
  ⟨rfl, rfl, rfl, by simp, fun k hk _ _ _ => Below.heap_alloc _ _ _ hk⟩
theorem Turned.put {B c : Nat} (W : World) (l : Nat) (o : Obj) (h : l = B ∨ l = B + 1) : Turned B c W (W.putObj l o) :=
  ⟨rfl, rfl, rfl, by simp, fun k _ _ h1 h2 => World.putObj_heap_other (by omega)⟩
theorem Turned.cell {B c : Nat} (W : World) (v : Value) : Turned B c W (W.setCell ⟨c, 0, none⟩ v) :=
  ⟨rfl, rfl, rfl, by simp [World.setCell], fun k _ hk _ _ => Below.heap_setCell _ _ _ _ hk⟩

/-- How the body of a round is left: off its end, and the iterator's boxes and the loop's blocks lie as they lay. -/
def roundEnds (c B : Nat) (R : World → Prop) (W : World) : Exit → Act → World → Prop
  | .normal, _, W' => (∀ k, c ≤ k → k ≤ c + 2 ∨ k = B ∨ k = B + 1 → W'.heap[k]? = W.heap[k]?) ∧ R W'
  | _, _, _ => False

theorem range_box {α : Type} {P : Program} (n c : Nat) {g : Operand} {ps : Array Tmp} {assign body : Code} {Q : Exit → Act → World → Prop} {a : Act} {w : World} {gf : Nat} {lb : Array Value}
    (hg : a.eval g = .func (.func gf) #[] lb) (eg : ∀ args w, (callFunc gf args).run P w = .ok (.enter gf args) w) {encs : α → Array Value} (hps : ∀ x, (encs x).size = ps.size) (ys : List α)
    (I : List α → World → Prop) (hc : c < w.heap.size) (hI : ∀ pre W W', Turned w.heap.size c W W' → I pre W → I pre W') (h0 : I [] w) (a₁ : α → Act)
    (hassign : ∀ (l : Nat) (x : α) (W : World) (K : Act → World → Prop), K (a₁ x) W →
      assign.wpIn (Fence.wide.inRound l) (n - 1 - 1) P (Exit.then K (fun _ _ _ => False)) { tmps := (ps.zip (encs x)).foldl (fun t (p, v) => t.setIfInBounds p v) a.tmps, defers := [] } W)
    (hbody : ∀ (l : Nat) (pre : List α) (x : α) (W : World), w.heap.size + 1 < W.heap.size → (∃ post, ys = pre ++ x :: post) → I pre W → body.wpIn (Fence.wide.inRound l) (n - 1 - 1) P (roundEnds c w.heap.size (I (pre ++ [x])) W) (a₁ x) W)
    (hseq : ∀ (l : Nat) (J : List α → World → Prop) (W1 : World), (∀ k, k < w.heap.size → W1.heap[k]? = w.heap[k]?) → (∀ pre W v, J pre W → J pre (W.setCell ⟨c, 0, none⟩ v)) →
      (∀ pre x W, (∃ post, ys = pre ++ x :: post) → J pre W → YieldAt Fence.wide (n - 1 - 1) P l (encs x) W fun e W' => e = .returned (.bool true) ∧ J (pre ++ [x]) W' ∧ ∀ k, c ≤ k → k ≤ c + 2 → W'.heap[k]? = W.heap[k]?) → J [] W1 →
      CallsIn Fence.wide (n - 1) P gf (#[.func (.yield l) #[] #[]] ++ lb) W1 fun e W' => (∃ v, e = .returned v) ∧ J ys W')
    (hc2 : c + 2 < w.heap.size)
    (hdone : ∀ W, I ys W → W.heap[w.heap.size]? = some (.deferred (some [])) → w.heap.size < W.heap.size → Q .normal { a with defers := { target := .collected w.heap.size, args := #[] } :: a.defers } W) :
    (Code.rangeFunc g ps assign body).wpIn Fence.wide n P Q a w := by
  refine wpIn_rangeFunc fun fn _ => ?_
  let rec_ : LoopState → Loop := fun st => { state := st, pending := none, fn, tmps := a.tmps, params := ps, assign, body, defers := w.heap.size }
  let W1 := (w.alloc (.deferred (some []))).alloc (.loop (rec_ .ready))
  have hB : w.heap.size ≤ w.heap.size := Nat.le_refl _
  have hD : W1.heap[w.heap.size]? = some (.deferred (some [])) := (Below.heap_alloc _ _ _ (by simp)).trans (World.alloc_heap_new w _)
  have hL : W1.heap[w.heap.size + 1]? = some (.loop (rec_ .ready)) := by
    have := World.alloc_heap_new (w.alloc (.deferred (some []))) (.loop (rec_ .ready))
    rwa [World.size_alloc] at this
  have hI1 : I [] W1 := hI _ _ _ (Turned.alloc _ _) (hI _ _ _ (Turned.alloc _ _) h0)
  refine ⟨w.heap.size + 1, [{ target := .collected w.heap.size, args := #[] }], W1, { target := .fn (.func gf) lb, args := #[.func (.yield (w.heap.size + 1)) #[] #[]] }, W1, gf, #[.func (.yield (w.heap.size + 1)) #[] #[]] ++ lb, W1, run_enterLoop_outer _ _ _ _ _, ?_, fun _ _ => trivial, ?_, (fun h => by cases h), ?_⟩
  · simp only [resolve, hg]
    simp [go_sem]
  · simp [invoke, go_sem, eg]
  · refine (hseq (w.heap.size + 1) (fun pre W => I pre W ∧ W.heap[w.heap.size + 1]? = some (.loop (rec_ .ready)) ∧ W.heap[w.heap.size]? = some (.deferred (some []))) W1
      (fun k hk => (Below.heap_alloc _ _ _ (by simp; omega)).trans (Below.heap_alloc _ _ _ hk))
      (fun pre W v ⟨h1, h2, h3⟩ => ⟨hI _ _ _ (Turned.cell _ _) h1, (Below.heap_setCell _ _ _ _ (by simp only; omega)).trans h2, (Below.heap_setCell _ _ _ _ (by simp only; omega)).trans h3⟩) ?_ ⟨hI1, hL, hD⟩).mono ?_
    · rintro pre x W hpx ⟨h1, h2, h3⟩
      have hy := run_yield (P := P) (args := encs x) h2 (hps x)
      refine ⟨fn, _, assign, body, hy, roundIn_of_wpIn trivial (hassign _ x W _ ⟨_, run_beginRound h2 rfl, ?_⟩)⟩
      have hlt := (Array.getElem?_eq_some_iff.1 h2).1
      have g2 : (W.putObj (w.heap.size + 1) (.loop { rec_ .ready with state := .busy })).heap[w.heap.size + 1]? = some (.loop { rec_ .ready with state := .busy }) := World.putObj_heap_same hlt
      have g3 := (World.putObj_heap_other (w := W) (o := .loop { rec_ .ready with state := .busy }) (show w.heap.size ≠ w.heap.size + 1 by omega)).trans h3
      refine wpIn_mono (hbody _ pre x _ (by rw [World.putObj_size]; exact hlt) hpx (hI _ _ _ (Turned.put _ _ _ (by omega)) h1)) ?_
      rintro e a3 W3 hp
      cases e with
      | normal =>
        obtain ⟨hk, hi⟩ := hp
        have k2 := (hk (w.heap.size + 1) (by omega) (by omega)).trans g2
        have k3 := (hk w.heap.size (by omega) (by omega)).trans g3
        refine ⟨_, _, run_endRound none k2, rfl, ⟨hI _ _ _ (Turned.put _ _ _ (by omega)) hi, World.putObj_heap_same (Array.getElem?_eq_some_iff.1 k2).1, (World.putObj_heap_other (by omega)).trans k3⟩, fun k hk1 hk2 => ?_⟩
        exact (World.putObj_heap_other (by omega)).trans ((hk k hk1 (by omega)).trans (World.putObj_heap_other (by omega)))
      | ret => exact hp.elim
      | exit id => exact hp.elim
      | goto t => exact hp.elim
      | panic ch => exact hp.elim
      | outgrown => exact hp.elim
    · rintro e W2 ⟨⟨v, rfl⟩, h1, h2, h3⟩
      exact ⟨none, _, run_endLoop h2 (by simp [rec_]), hdone _ (hI _ _ _ (Turned.put _ _ _ (by omega)) h1) ((World.putObj_heap_other (by omega)).trans h3) (by have := (Array.getElem?_eq_some_iff.1 h3).1; simpa using this)⟩
end Go.Proofs.YtcleicjgeflbnaaGreatDoor
