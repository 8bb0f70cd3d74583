/- Appends of one cell to rows of one's own, where two of them live beside each other: where the new row lies. Plain laws of the model. -/
import Derived.Test.YtechgcjdigpglaaGreatK15
import Derived.Test.YtechgcjdigpglaaGreatV15
namespace Go.Proofs.YtechgcjdigpglaaGreat
open Go.RowKit Go.ChangeShapes Go.WideShapes Go.Deep
set_option linter.all false

/-- A row of one's own is kept where its block is. -/
theorem own_keep1 {W W' : World} {B : Nat} {e : TypeId} {z n : Nat} {v : Value} {xs : List Value} (h : W.ownsRow B e z v n xs) (hk : ∀ k, v.ownBlock = some k → W'.heap[k]? = W.heap[k]?) : W'.ownsRow B e z v n xs := by
  obtain ⟨h1, h2 | ⟨g, cap, cur, rfl, a1, a2, a3⟩⟩ := h
  · exact ⟨h1, .inl h2⟩
  · exact ⟨h1, .inr ⟨g, cap, cur, rfl, a1, by rw [hk g rfl]; exact a2, a3⟩⟩
theorem append_own1 {P : Program} {ops : Array Oper} {rest : List Oper} {o : Oper} {a : Act} {Q : Exit → Act → World → Prop} (w : World) (hgd : o.guard = none) (s x : Operand) (t : TypeId)
    (hop : o.op = .call { callee := .builtin .append, args := #[s, x], argTypes := #[t, t] })
    (base : Nat) (e : TypeId) (i : TypeInfo) (z : Value) (ht : P.underlying t = some (.slice e)) (hi : P.info? e = some i) (hz : i.zero = some z) (h1 : i.size = 1) (h8 : i.bytes = 8) (hz1 : z.cells.size = 1)
    (v : Value) (n : Nat) (xs : List Value) (hs : a.eval s = v) (hown : w.ownsRow base e 1 v n xs)
    (ad : Addr) (u : Value) (hx : a.eval x = .slice (some ad) 1 1) (hu : w.cell? ad = some u) (hu1 : u.oneCell' = true) (h63 : n + 1 ≤ maxLen) (hb : (n + 1) * 8 ≤ 140737488355328) (hbase : base ≤ w.heap.size)
    (h : ∀ v' w', w'.ownsRow base e 1 v' (n + 1) (xs ++ [u]) → w.grownBy w' v.ownBlock → (v'.ownBlock = v.ownBlock ∨ ∀ k, v'.ownBlock = some k → w.heap.size ≤ k) → wpList P ops Q rest (a.put o.dst v') w') : wpList P ops Q (o :: rest) a w := by
  obtain ⟨v', w', r1, r2, r3, r4⟩ := append_at (P := P) w base t o.type e i z ht hi hz h1 h8 v n xs hown ad u hu hu1 h63 hb hbase hz1
  refine wpList_plain hgd fun K hK => ?_
  have hr : (execOp a.eval o).run P w = .ok (.value v') w' := by
    simp [execOp, hop, resolve, invoke, builtin, hs, hx, r1, Result.andThen]
  unfold Oper.wp
  rw [hr]
  exact hK _ _ (h v' w' r2 r3 r4)
/-- What is grown by a row's block is kept elsewhere. -/
theorem grown_block {w w' : World} {row : Option Nat} (h : w.grownBy w' row) {k : Nat} (hk : k < w.heap.size) (hn : row ≠ some k) : w'.heap[k]? = w.heap[k]? := h.block k hk (fun e => hn e.symm)
theorem BxM.grown {b : Nat} {vals : Array Value} {t : TypeId} {W W' : World} {row : Option Nat} (h : BxM b vals t W) (hg : W.grownBy W' row) (hn : row ≠ some b) : BxM b vals t W' := ⟨(grown_block hg h.lt hn).trans h.heap⟩
end Go.Proofs.YtechgcjdigpglaaGreat
