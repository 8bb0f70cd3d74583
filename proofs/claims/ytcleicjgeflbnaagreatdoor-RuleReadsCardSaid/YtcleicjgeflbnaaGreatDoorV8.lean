/- A region that draws its order, within a round of a range over a function: by its plain law. Conditions: no operation defers; the post lets nothing out. -/
import Derived.Test.YtcleicjgeflbnaaGreatDoorV7
import Derived.Shelf.RegionOpen
import Derived.RangeFuncCalls
import Derived.OrdersIn
namespace Go.Proofs.YtcleicjgeflbnaaGreatDoor
open Go.RowKit Go.ChangeShapes Go.WideShapes Go.Deep
set_option linter.all false

theorem upon_in {P : Program} {o : Oper} {a : Act} {next : Act → World → Prop} {Q : Exit → Act → World → Prop} (l n : Nat) (r : Result Next) (h : o.upon P a next Q r) : o.uponIn (Fence.wide.inRound l) n P a next Q r := by
  cases r with
  | ok x w =>
    cases x with
    | value v => exact h
    | skip => exact h
    | defer d => exact h
    | enter f args => exact ⟨(fun h => (by cases h)), CallsIn.inRound l (callsIn_wide.2 h)⟩
    | row row args => exact ⟨(fun h => (by cases h)), fun c cs _ => let ⟨v, w', r, s⟩ := h c cs; ⟨v, w', r, stepsIn_wide.2 s⟩⟩
    | _ => exact h.elim
  | halt x w =>
    cases x with
    | panic v => exact h
    | _ => exact h.elim

theorem wpOp_in {P : Program} {ops : Array Oper} {Q : Exit → Act → World → Prop} (l n : Nat) (hd : ∀ (i : Nat) (o : Oper), ops[i]? = some o → ∀ c, o.op ≠ .defer c) (hQ : ¬ LetsOut Q) {i : Nat} {K K' : Act → World → Prop} {a : Act} {w : World}
    (hK : ∀ a w, K a w → K' a w) (h : wpOp P ops Q i K a w) : wpOpIn (Fence.wide.inRound l) n P ops Q i K' a w := by
  unfold wpOp at h
  unfold wpOpIn
  cases ho : ops[i]? with
  | none => rw [ho] at h; exact hK _ _ h
  | some o =>
    rw [ho] at h
    simp only at h ⊢
    split at h
    · rename_i hw
      rw [if_pos hw]
      rcases h with h | ⟨_, h⟩
      · refine ⟨fun _ _ => trivial, ?_⟩
        show o.uponIn _ _ _ _ _ _ ((o.semAt (some l) a.eval).run P w)
        rw [Oper.semAt_some l _ _ (hd i o ho)]
        exact upon_in l n _ (Oper.wp_mono hK h)
      · exact absurd h hQ
    · rename_i hw
      rw [if_neg hw]
      exact ⟨fun _ _ => trivial, hK _ _ h⟩

theorem wpAny_in {P : Program} {md : Region.Mode} {ops : Array Oper} {Q : Exit → Act → World → Prop} (l n : Nat) (hd : ∀ (i : Nat) (o : Oper), ops[i]? = some o → ∀ c, o.op ≠ .defer c) (hQ : ¬ LetsOut Q) : ∀ (fuel : Nat) (listed : Array Bool) (a : Act) (w : World),
    wpAny P md ops Q fuel listed a w → wpAnyIn (Fence.wide.inRound l) n P md ops Q fuel listed a w
  | 0, _, _, _, h => h
  | fuel + 1, _, _, _, h => ⟨h.1, fun i hi => wpOp_in l n hd hQ (fun a w hk => wpAny_in l n hd hQ fuel _ a w hk) (h.2 i hi)⟩

def noDefer (ops : Array Oper) : Bool := ops.all fun o => match o.op with | .defer _ => false | _ => true
theorem noDefer_spec {ops : Array Oper} (h : noDefer ops = true) (i : Nat) (o : Oper) (ho : ops[i]? = some o) (c : Call) : o.op ≠ .defer c := by
  intro e
  have hm := Array.mem_of_getElem? ho
  have := (Array.all_eq_true'.1 h) o hm
  rw [e] at this
  cases this
theorem region_in {P : Program} {ops : Array Oper} {Q : Exit → Act → World → Prop} (l n : Nat) (id : Nat) {a : Act} {w : World} (hm : P.follows .mixedOrders = true) (hd : noDefer ops = true) (hQ : ¬ LetsOut Q)
    (h : wpAny P .any ops Q ops.size (Array.replicate ops.size false) a w.drew) : (Code.region id ops true).wpIn (Fence.wide.inRound l) n P Q a w :=
  wpIn_region_any hm (wpAny_in l n (noDefer_spec hd) hQ _ _ _ _ h)
end Go.Proofs.YtcleicjgeflbnaaGreatDoor
