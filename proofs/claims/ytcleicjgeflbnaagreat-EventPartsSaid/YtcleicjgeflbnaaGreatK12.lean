/- A range over an iterator that makes memory of its own, by a caller whose rounds may return: the rounds leave alone what the iterator made. Plain laws of the model; no condition. -/
import Derived.Test.YtcleicjgeflbnaaGreatK11
import Derived.RangeFuncKeeps
import Derived.RangeFuncLeaves
import Derived.OwnWalkIn
import Derived.TacticsInMore
import Derived.LoopNIn
import Derived.LoopIn
import Derived.RangeFuncRecord
namespace Go.Proofs.YtcleicjgeflbnaaGreat
open Go.RowKit Go.ChangeShapes Go.WideShapes Go.Deep
set_option linter.all false
attribute [local go_sem] Oper.semAt_some

theorem yield_lvl {n m : Nat} {P : Program} {l : Nat} {args : Array Value} {W : World} {R : Ending → World → Prop} (h : YieldAt Fence.wide n P l args W R) : YieldAt Fence.wide m P l args W R := by
  obtain ⟨fn, tmps, assign, body, hy, hF, hr⟩ := h
  exact ⟨fn, tmps, assign, body, hy, hF, fun c cs _ => hr c cs (room_wide _)⟩
theorem callsIn_lvl {n m : Nat} {P : Program} {f : FuncId} {args : Array Value} {W : World} {R : Ending → World → Prop} (h : CallsIn Fence.wide n P f args W R) : CallsIn Fence.wide m P f args W R :=
  callsIn_wide.2 (callsIn_wide.1 h)

/-- How the body of a round is left: off its end, or by a return; what is to be left alone, and the loop's blocks lie as they lay. -/
def roundEndsM (G : Nat → Prop) (B : Nat) (R Rx : World → Prop) (W : World) : Exit → Act → World → Prop
  | .normal, _, W' => (∀ k, G k ∨ k = B ∨ k = B + 1 → W'.heap[k]? = W.heap[k]?) ∧ R W'
  | .ret, _, W' => (∀ k, k = B ∨ k = B + 1 → W'.heap[k]? = W.heap[k]?) ∧ Rx W'
  | _, _, _ => False
/-- The blocks to be left alone, and those that were made. -/
def more (G : Nat → Prop) (W W' : World) : Nat → Prop := fun k => G k ∨ (W.heap.size ≤ k ∧ k < W'.heap.size)

theorem range_mem {α : Type} {P : Program} (n : Nat) {g : Operand} {ps : Array Tmp} {assign body : Code} {Q : Exit → Act → World → Prop} {a : Act} {w : World} {gf : Nat} {lb : Array Value}
    (hg : a.eval g = .func (.func gf) #[] lb) (eg : ∀ args w, (callFunc gf args).run P w = .ok (.enter gf args) w) {encs : α → Array Value} (hps : ∀ x, (encs x).size = ps.size) (ys : List α)
    (I : (Nat → Prop) → List α → World → Prop) (Ix : World → Prop) (G0 : Nat → Prop)
    (hI : ∀ G pre W W', Below W.heap.size W W' → I G pre W → I (more G W W') pre W')
    (hIp : ∀ G pre W l o, l = w.heap.size ∨ l = w.heap.size + 1 → I G pre W → I G pre (W.putObj l o))
    (hIx : ∀ W l o, l = w.heap.size ∨ l = w.heap.size + 1 → Ix W → Ix (W.putObj l o)) (h0 : I G0 [] w) (a₁ : α → Act)
    (hassign : ∀ (l : Nat) (x : α) (W : World) (K : Act → World → Prop), K (a₁ x) W →
      assign.wpIn (Fence.wide.inRound l) (n - 1 - 1) P (Exit.then K (fun _ _ _ => False)) { tmps := (ps.zip (encs x)).foldl (fun t (p, v) => t.setIfInBounds p v) a.tmps, defers := [] } W)
    (hbody : ∀ (l : Nat) (G : Nat → Prop) (pre : List α) (x : α) (W : World), w.heap.size + 1 < W.heap.size → (∃ post, ys = pre ++ x :: post) → I G pre W → body.wpIn (Fence.wide.inRound l) (n - 1 - 1) P (roundEndsM G w.heap.size (I G (pre ++ [x])) Ix W) (a₁ x) W)
    (hseq : ∀ (l : Nat) (J : (Nat → Prop) → List α → World → Prop) (Jx : World → Prop) (G1 : Nat → Prop) (W1 : World), Below w.heap.size w W1 → (∀ G pre W, J G pre W → I G pre W) → (∀ G pre W W', Below W.heap.size W W' → J G pre W → J (more G W W') pre W') →
      (∀ m G pre x W, (∃ post, ys = pre ++ x :: post) → J G pre W → YieldAt Fence.wide m P l (encs x) W fun e W' => (e = .returned (.bool true) ∧ J G (pre ++ [x]) W' ∧ ∀ k, G k → W'.heap[k]? = W.heap[k]?) ∨ (e = .returned (.bool false) ∧ Jx W')) → J G1 [] W1 →
      CallsIn Fence.wide (n - 1) P gf (#[.func (.yield l) #[] #[]] ++ lb) W1 fun e W' => (∃ v, e = .returned v) ∧ ((∃ G, J G ys W') ∨ Jx W'))
    (hdone : ∀ G W, I G ys W → W.heap[w.heap.size]? = some (.deferred (some [])) → w.heap.size < W.heap.size → Q .normal { a with defers := { target := .collected w.heap.size, args := #[] } :: a.defers } W)
    (hstop : ∀ W, Ix W → W.heap[w.heap.size]? = some (.deferred (some [])) → w.heap.size < W.heap.size → Code.ret.wpIn Fence.wide n P Q { a with defers := { target := .collected w.heap.size, args := #[] } :: a.defers } W) :
    (Code.rangeFunc g ps assign body).wpIn Fence.wide n P Q a w := by
  refine wpIn_rangeFunc fun fn _ => ?_
  let rec_ : LoopState → Loop := fun st => { state := st, pending := none, fn, tmps := a.tmps, params := ps, assign, body, defers := w.heap.size }
  let W1 := (w.alloc (.deferred (some []))).alloc (.loop (rec_ .ready))
  have hD : W1.heap[w.heap.size]? = some (.deferred (some [])) := (Below.heap_alloc _ _ _ (by simp)).trans (World.alloc_heap_new w _)
  have hL : W1.heap[w.heap.size + 1]? = some (.loop (rec_ .ready)) := by
    have := World.alloc_heap_new (w.alloc (.deferred (some []))) (.loop (rec_ .ready))
    rwa [World.size_alloc] at this
  have hB1 : Below w.heap.size w (w.alloc (.deferred (some []))) := (Below.refl _ _).alloc (Nat.le_refl _) _
  have hB2 : Below (w.alloc (.deferred (some []))).heap.size (w.alloc (.deferred (some []))) W1 := (Below.refl _ _).alloc (Nat.le_refl _) _
  have hI1 := hI _ _ _ _ hB2 (hI _ _ _ _ hB1 h0)
  have hBW : Below w.heap.size w W1 := hB1.trans (hB2.mono (by simp))
  refine ⟨w.heap.size + 1, [{ target := .collected w.heap.size, args := #[] }], W1, { target := .fn (.func gf) lb, args := #[.func (.yield (w.heap.size + 1)) #[] #[]] }, W1, gf, #[.func (.yield (w.heap.size + 1)) #[] #[]] ++ lb, W1, run_enterLoop_outer _ _ _ _ _, ?_, fun _ _ => trivial, ?_, (fun h => by cases h), ?_⟩
  · simp only [resolve, hg]
    simp [go_sem]
  · simp [invoke, go_sem, eg]
  · refine (hseq (w.heap.size + 1) (fun G pre W => I G pre W ∧ W.heap[w.heap.size + 1]? = some (.loop (rec_ .ready)) ∧ W.heap[w.heap.size]? = some (.deferred (some []))) (fun W => Ix W ∧ W.heap[w.heap.size + 1]? = some (.loop { rec_ .done with pending := some .ret }) ∧ W.heap[w.heap.size]? = some (.deferred (some []))) _ W1 hBW (fun G pre W h => h.1)
      (fun G pre W W' hb ⟨h1, h2, h3⟩ => ⟨hI _ _ _ _ hb h1, (hb.block _ (Array.getElem?_eq_some_iff.1 h2).1).trans h2, (hb.block _ (Array.getElem?_eq_some_iff.1 h3).1).trans h3⟩) ?_ ⟨hI1, hL, hD⟩).mono ?_
    · rintro m G pre x W hpx ⟨h1, h2, h3⟩
      have hy := run_yield (P := P) (args := encs x) h2 (hps x)
      refine yield_lvl (n := n - 1 - 1) ⟨fn, _, assign, body, hy, roundIn_of_wpIn trivial (hassign _ x W _ ⟨_, run_beginRound h2 rfl, ?_⟩)⟩
      have hlt := (Array.getElem?_eq_some_iff.1 h2).1
      have g2 : (W.putObj (w.heap.size + 1) (.loop { rec_ .ready with state := .busy })).heap[w.heap.size + 1]? = some (.loop { rec_ .ready with state := .busy }) := World.putObj_heap_same hlt
      have g3 := (World.putObj_heap_other (w := W) (o := .loop { rec_ .ready with state := .busy }) (show w.heap.size ≠ w.heap.size + 1 by omega)).trans h3
      refine wpIn_mono (hbody _ G pre x _ (by rw [World.putObj_size]; exact hlt) hpx (hIp _ _ _ _ _ (.inr rfl) h1)) ?_
      rintro e a3 W3 hp
      cases e with
      | normal =>
        obtain ⟨hk, hi⟩ := hp
        have k2 := (hk (w.heap.size + 1) (by omega)).trans g2
        have k3 := (hk w.heap.size (by omega)).trans g3
        refine ⟨_, _, run_endRound none k2, .inl ⟨rfl, ⟨hIp _ _ _ _ _ (.inr rfl) hi, World.putObj_heap_same (Array.getElem?_eq_some_iff.1 k2).1, (World.putObj_heap_other (by omega)).trans k3⟩, fun k hk1 => ?_⟩⟩
        by_cases e : k = w.heap.size + 1
        · subst e
          exact (World.putObj_heap_same (Array.getElem?_eq_some_iff.1 k2).1).trans h2.symm
        · exact (World.putObj_heap_other e).trans ((hk k (.inl hk1)).trans (World.putObj_heap_other e))
      | ret =>
        obtain ⟨hk, hi⟩ := hp
        have k2 := (hk (w.heap.size + 1) (by omega)).trans g2
        have k3 := (hk w.heap.size (by omega)).trans g3
        exact ⟨_, _, run_endRound (some .ret) k2, .inr ⟨rfl, hIx _ _ _ (.inr rfl) hi, World.putObj_heap_same (Array.getElem?_eq_some_iff.1 k2).1, (World.putObj_heap_other (by omega)).trans k3⟩⟩
      | exit id => exact hp.elim
      | goto t => exact hp.elim
      | panic ch => exact hp.elim
      | outgrown => exact hp.elim
    · rintro e W2 ⟨⟨v, rfl⟩, ⟨G, h1, h2, h3⟩ | ⟨h1, h2, h3⟩⟩
      · exact ⟨none, _, run_endLoop h2 (by simp [rec_]), hdone _ _ (hIp _ _ _ _ _ (.inr rfl) h1) ((World.putObj_heap_other (by omega)).trans h3) (by have := (Array.getElem?_eq_some_iff.1 h3).1; simpa using this)⟩
      · exact ⟨some .ret, _, run_endLoop h2 (by simp), hstop _ (hIx _ _ _ (.inr rfl) h1) ((World.putObj_heap_other (by omega)).trans h3) (by have := (Array.getElem?_eq_some_iff.1 h3).1; simpa using this)⟩
/-- Marks on an activation that came from ranges over functions are taken in, one by one. -/
abbrev markOf (D : Nat) : Deferred := { target := .collected D, args := #[] }
theorem leaves_marks {F : Fence} {n : Nat} {P : Program} {fn : Func} {tmps : Array Value} {R : Ending → World → Prop} {u : FrameMode} (hu : u ≠ .run) : ∀ (Ds : List Nat) (W : World), Ds.Nodup → (∀ D ∈ Ds, W.heap[D]? = some (.deferred (some []))) →
    (∀ W', (∀ k, k ∉ Ds → W'.heap[k]? = W.heap[k]?) → W'.os = W.os → W'.tape = W.tape → W'.output = W.output → W.heap.size ≤ W'.heap.size → LeavesIn F n P fn tmps R [] u W') → LeavesInM F n P fn tmps R (Ds.map markOf) u W
  | [], W, _, _, h => h W (fun _ _ => rfl) rfl rfl rfl (Nat.le_refl _)
  | D :: Ds, W, hn, hK, h => by
    have hn' := List.nodup_cons.1 hn
    refine ⟨hu, .inl ⟨D, _, rfl, run_takeDeferred (hK D (List.mem_cons_self ..)), ?_⟩⟩
    refine leaves_marks hu Ds _ hn'.2 (fun E hE => ?_) (fun W' h1 h2 h3 h4 h5 => h W' (fun k hk => ?_) h2 h3 h4 (by simpa using h5))
    · exact (World.putObj_heap_other (fun e => hn'.1 (by rw [← e]; exact hE))).trans (hK E (List.mem_cons_of_mem _ hE))
    · rw [List.mem_cons, not_or] at hk
      exact (h1 k hk.2).trans (World.putObj_heap_other hk.1)
end Go.Proofs.YtcleicjgeflbnaaGreat
