/- ref10.Times: what lies in memory while days are gone through. Plain laws of the model. -/
import Derived.Test.YtechgcjdigpglaaGreatAP
import Derived.Test.YtechgcjdigpglaaGreatU6
import Derived.Test.YtechgcjdigpglaaGreatU7p
namespace Go.Proofs.YtechgcjdigpglaaGreat
open Go.RowKit Go.ChangeShapes Go.WideShapes Go.Deep
set_option linter.all false

structure TMem (bs bd : Nat) (rb sb db : Array Value) (v7 v9 : Value) (out l : List Int) (w wr : World) : Prop where
  bel : Below w.heap.size w wr
  xr : BxM w.heap.size rb 28 wr
  xs : BxM bs sb 133 wr
  xd : BxM bd db 133 wr
  o7 : wr.ownsRow (w.heap.size + 1) 2 1 v7 out.length (inC out)
  o9 : wr.ownsRow (w.heap.size + 1) 3 1 v9 l.length (inC l)
  a7 : v7.ownBlock ≠ some bs ∧ v7.ownBlock ≠ some bd
  a9 : v9.ownBlock ≠ some bs ∧ v9.ownBlock ≠ some bd ∧ ∀ k, v9.ownBlock = some k → v7.ownBlock ≠ some k
theorem own_low1 {W : World} {B : Nat} {e : TypeId} {z n : Nat} {v : Value} {xs : List Value} (h : W.ownsRow B e z v n xs) {k : Nat} (hk : v.ownBlock = some k) : B ≤ k ∧ k < W.heap.size := h.lt k hk
section
variable {bs bd : Nat} {rb sb db : Array Value} {v7 v9 : Value} {out l : List Int} {w wr w' : World}
theorem TMem.below (h : TMem bs bd rb sb db v7 v9 out l w wr) (hb : Below wr.heap.size wr w') : TMem bs bd rb sb db v7 v9 out l w w' :=
  ⟨h.bel.trans (hb.mono h.bel.size), h.xr.below hb, h.xs.below hb, h.xd.below hb, own_laterI h.o7 hb, own_laterI h.o9 hb, h.a7, h.a9⟩
theorem TMem.app7 (h : TMem bs bd rb sb db v7 v9 out l w wr) {v' : Value} {u : Int} (ho : w'.ownsRow (w.heap.size + 1) 2 1 v' (out.length + 1) (inC out ++ [.int .i64 u])) (hg : wr.grownBy w' v7.ownBlock)
    (hv : v'.ownBlock = v7.ownBlock ∨ ∀ k, v'.ownBlock = some k → wr.heap.size ≤ k) : TMem bs bd rb sb db v' v9 (out ++ [u]) l w w' := by
  have r1 : v7.ownBlock ≠ some w.heap.size := fun e => by have := (own_low1 h.o7 e).1; omega
  refine ⟨h.bel.grown hg h.bel.size fun k hk => by have := (own_low1 h.o7 hk).1; omega, h.xr.grown hg r1, h.xs.grown hg h.a7.1, h.xd.grown hg h.a7.2, ?_, own_keep1 h.o9 fun k hk => grown_block hg (own_low1 h.o9 hk).2 (h.a9.2.2 k hk), ?_, h.a9.1, h.a9.2.1, fun k hk e => ?_⟩
  · rw [inC_append, List.length_append]; exact ho
  · rcases hv with e | hn
    · rw [e]; exact h.a7
    · exact ⟨fun e => by have := hn _ e; have := h.xs.lt; omega, fun e => by have := hn _ e; have := h.xd.lt; omega⟩
  · rcases hv with e2 | hn
    · rw [e2] at e; exact h.a9.2.2 k hk e
    · have := hn k e; have := (own_low1 h.o9 hk).2; omega
theorem TMem.app9 (h : TMem bs bd rb sb db v7 v9 out l w wr) {v' : Value} {u : Int} (ho : w'.ownsRow (w.heap.size + 1) 3 1 v' (l.length + 1) (inC l ++ [.int .i64 u])) (hg : wr.grownBy w' v9.ownBlock)
    (hv : v'.ownBlock = v9.ownBlock ∨ ∀ k, v'.ownBlock = some k → wr.heap.size ≤ k) : TMem bs bd rb sb db v7 v' out (l ++ [u]) w w' := by
  have r1 : v9.ownBlock ≠ some w.heap.size := fun e => by have := (own_low1 h.o9 e).1; omega
  have r7 : ∀ k, v7.ownBlock = some k → v9.ownBlock ≠ some k := fun k hk e => h.a9.2.2 k e hk
  refine ⟨h.bel.grown hg h.bel.size fun k hk => by have := (own_low1 h.o9 hk).1; omega, h.xr.grown hg r1, h.xs.grown hg h.a9.1, h.xd.grown hg h.a9.2.1, own_keep1 h.o7 fun k hk => grown_block hg (own_low1 h.o7 hk).2 (r7 k hk), ?_, h.a7, ?_, ?_, ?_⟩
  · rw [inC_append, List.length_append]; exact ho
  · rcases hv with e | hn
    · rw [e]; exact h.a9.1
    · exact fun e => by have := hn _ e; have := h.xs.lt; omega
  · rcases hv with e | hn
    · rw [e]; exact h.a9.2.1
    · exact fun e => by have := hn _ e; have := h.xd.lt; omega
  · intro k hk e
    rcases hv with e2 | hn
    · rw [e2] at hk; exact h.a9.2.2 k hk e
    · have := hn k hk; have := (own_low1 h.o7 e).2; omega
theorem TMem.new9 (h : TMem bs bd rb sb db v7 v9 out l w wr) : TMem bs bd rb sb db v7 (.slice (some ⟨wr.heap.size, 0, none⟩) 0 0) out [] w (wr.alloc (.cells #[] 3)) := by
  have hb : Below wr.heap.size wr (wr.alloc (.cells #[] 3)) := (Below.refl _ _).alloc (Nat.le_refl _) _
  have e : (Value.slice (some ⟨wr.heap.size, 0, none⟩) 0 0).ownBlock = some wr.heap.size := rfl
  have h2 := h.below hb
  have hs : w.heap.size < wr.heap.size := h.xr.lt
  refine ⟨h2.bel, h2.xr, h2.xs, h2.xd, h2.o7, empty_own wr (w.heap.size + 1) _ (by omega), h.a7, ?_, ?_, ?_⟩
  · rw [e]; intro q; have := h.xs.lt; cases q; omega
  · rw [e]; intro q; have := h.xd.lt; cases q; omega
  · intro k hk q; rw [e] at hk; cases hk; have := (own_low1 h.o7 q).2; omega
theorem TMem.newk (h : TMem bs bd rb sb db v7 v9 out l w wr) (hb : Below wr.heap.size wr w') {v' : Value} {m : List Int} (ho : w'.ownsRow wr.heap.size 3 1 v' m.length (inC m)) : TMem bs bd rb sb db v7 v' out m w w' := by
  have h2 := h.below hb
  have hs : w.heap.size < wr.heap.size := h.xr.lt
  refine ⟨h2.bel, h2.xr, h2.xs, h2.xd, h2.o7, own_base ho (by omega), h.a7, ?_, ?_, ?_⟩
  · intro q; have := (own_low1 ho q).1; have := h.xs.lt; omega
  · intro q; have := (own_low1 ho q).1; have := h.xd.lt; omega
  · intro k hk q; have := (own_low1 ho hk).1; have := (own_low1 h.o7 q).2; omega
/-- A new box for the next day. -/
theorem TMem.newd {bd' : Nat} {db' : Array Value} (h : TMem bs bd rb sb db v7 v9 out l w wr) (hx : BxM bd' db' 133 wr) (h7 : v7.ownBlock ≠ some bd') (h9 : v9.ownBlock ≠ some bd') : TMem bs bd' rb sb db' v7 v9 out l w wr :=
  ⟨h.bel, h.xr, h.xs, hx, h.o7, h.o9, ⟨h.a7.1, h7⟩, h.a9.1, h9, h.a9.2.2⟩
end
end Go.Proofs.YtechgcjdigpglaaGreat
