/- The cells of a question, and a guarded load of a whole row. No condition but that the cells read. -/
import Derived.Test.YtcleicjgeflbnaaG18
import Derived.Test.YtcleicjgeflbnaaG25
namespace Go.Proofs.Ytcleicjgeflbnaa
open Go.RowKit Go.ChangeShapes Go.WideShapes Go.Deep

theorem wpList_load_g {P : Program} {ops : Array Oper} {rest : List Oper} {o : Oper} {a : Act} {w : World} {Q : Exit → Act → World → Prop} (hw : Region.wanted o (yielded ops a.tmps) = true) (ty : TypeId) (x : Operand) (ho : o.op = .load ty x)
    (g : Nat) (hx : a.eval x = .pointer (some ⟨g, 0, none⟩)) (t : TypeId) (cs : Array Value) (fr : Nat × Nat) (d : TypeDesc) (hg : w.heap[g]? = some (.cells cs t fr))
    (hu : P.underlying ty = some d) (hd : (match d with | .struct _ | .array _ _ => true | _ => false) = true) (hi : (P.info? ty).map (·.size) = some cs.size)
    (h : wpList P ops Q rest (a.put o.dst (.agg cs)) w) : wpList P ops Q (o :: rest) a w := by
  unfold wpList
  rw [if_pos hw]
  exact .inl (wp_load_row ty x ho g hx t cs fr d hg hu hd hi h)

theorem rAsk.cells {w : World} {ds : List Value} {a : AskD} (ha : rAsk w ds a) : ∃ o1 n1 c1 o2 n2 c2, AskA ds.toArray a ∧ (∀ h, ds.toArray[31]'h = .slice o1 n1 c1) ∧ (∀ h, ds.toArray[32]'h = .slice o2 n2 c2) := by
  obtain ⟨as_, ae, aq, rfl, _, _, _, _, _, _, _, _, _, _, ⟨_, _, _, rfl, _, _, _, ⟨ot, nt, ct, rfl, _⟩, ⟨oh, nh, ch, rfl, _⟩, ⟨oo, no, co, rfl, _⟩⟩, ⟨_, _, _, _, rfl, _, _, ⟨_, _, _, _, rfl, _, _, _, _, _, ⟨or1, nr1, cr1, rfl, _⟩, ⟨or2, nr2, cr2, rfl, _⟩, ⟨or3, nr3, cr3, rfl, _⟩, ⟨or4, nr4, cr4, rfl, _⟩⟩, ⟨oe1, ne1, ce1, rfl, _⟩, ⟨oe2, ne2, ce2, rfl, _⟩, ⟨oe3, ne3, ce3, rfl, _⟩⟩, ⟨_, _, _, _, rfl, _, _, _, _, _, ⟨oq1, nq1, cq1, rfl, _⟩, ⟨oq2, nq2, cq2, rfl, _⟩, ⟨oq3, nq3, cq3, rfl, _⟩, ⟨oq4, nq4, cq4, rfl, _⟩⟩⟩ := ha
  exact ⟨_, _, _, _, _, _, ⟨rfl, fun _ => rfl, fun _ => rfl, fun _ => rfl⟩, fun _ => rfl, fun _ => rfl⟩

end Go.Proofs.Ytcleicjgeflbnaa
