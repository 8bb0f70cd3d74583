/- The row of EventDropped: called with any arguments the law answers true and leaves all as it was. Conditions: none. -/
import Derived.Test.YtechgcjdigpglaaGreatRows
import Derived.Test.YtechgcjdigpglaaGreatDR
import Derived.WalkKit
import Derived.ProofKit
import Derived.OpenShut
import Derived.ChangeOld
import Derived.Below
import Derived.Carry
import Derived.SizedLaws
namespace Go.Proofs.YtechgcjdigpglaaGreat.eventDropped
open Go.ChangeShapes Go.WideShapes Go.ChangeAt Go.RowKit
set_option linter.unusedVariables false
theorem own : ownKnob Tryz.prog.godebug = none := by kernel_rfl
theorem laidOut : laidOutB Tryz.prog = true := by kernel_rfl
theorem rd_zone {w : World} {H : Type} {enc : TypeId × Value → H} {cs : List Value} {d : Dt} (h : Rd w (I (.sl sh2 .nil)) cs d) : ∃ x, rZone w cs x := by
  obtain ⟨n1, _, _, rfl, _, w1, v1, _, _, _, rfl, _, s1, rfl, _⟩ := h
  obtain ⟨x1, t1⟩ := Row.of_rd (R' := rTurn) s1 fun _ _ => rd_turn
  exact ⟨⟨n1, x1⟩, v1, rfl, wfi_of w1, t1⟩
theorem opened_zn {H : Type} {enc : TypeId × Value → H} {W : World} {v : Value} {d : DataW H} {p : List MemPlace} (h : DataW.Trod enc Tryz.prog W 0 (fun _ => true) true 24 v d p) :
    ∃ (arr : Array Value) (x : ZoneD), v = .agg arr.toList.toArray ∧ rZone W arr.toList x := by
  obtain ⟨fuel, hf⟩ := h
  obtain ⟨d', hd⟩ := rd_of_trod (P := Tryz.prog) 12 24 .nil (I (.sl sh2 .nil)) _ [] .nil fuel _ (by kernel_rfl) hf ⟨rfl, rfl⟩
  obtain ⟨x, hx⟩ := rd_zone (enc := enc) hd
  rw [List.append_nil] at hx
  cases v with
  | agg arr => exact ⟨arr, x, by simp, hx⟩
  | _ => obtain ⟨_, e, _⟩ := hx; simp [Value.cells] at e
theorem rd_ev {w : World} {cs : List Value} {d : Dt} (h : Rd w (shEvent .nil) cs d) : ∃ x, rEvent w cs x := by
  obtain ⟨x, c1, _, _, rfl, hx, rfl, _⟩ := rd_event h
  exact ⟨x, by simpa using hx⟩
theorem opened_ev {H : Type} {enc : TypeId × Value → H} {W : World} {v : Value} {d : DataW H} {p : List MemPlace} (h : DataW.Trod enc Tryz.prog W 0 (fun _ => true) true 32 v d p) :
    ∃ (arr : Array Value) (x : EventD), v = .agg arr.toList.toArray ∧ rEvent W arr.toList x := by
  obtain ⟨fuel, hf⟩ := h
  obtain ⟨d', hd⟩ := rd_of_trod (P := Tryz.prog) 12 32 .nil (shEvent .nil) _ [] .nil fuel _ (by kernel_rfl) hf ⟨rfl, rfl⟩
  obtain ⟨x, hx⟩ := rd_ev hd
  rw [List.append_nil] at hx
  cases v with
  | agg arr => exact ⟨arr, x, by simp, hx⟩
  | _ => obtain ⟨_, _, _, _, e, _⟩ := hx; simp [Value.cells] at e
def rSpan (cs : List Value) (x : Int × Int) : Prop := cs = [.int .i64 x.1, .int .i64 x.2] ∧ wfi .i64 x.1 ∧ wfi .i64 x.2
theorem rd_span {w : World} {cs : List Value} {d : Dt} (h : Rd w sh2 cs d) : ∃ x, rSpan cs x := by
  obtain ⟨n, _, _, rfl, _, h, m, _, _, rfl, _, h', rfl, _⟩ := h
  exact ⟨⟨n, m⟩, rfl, wfi_of h, wfi_of h'⟩
theorem opened_sp {H : Type} {enc : TypeId × Value → H} {W : World} {v : Value} {d : DataW H} {p : List MemPlace} (h : DataW.Trod enc Tryz.prog W 0 (fun _ => true) true 34 v d p) :
    ∃ (arr : Array Value) (x : Int × Int), v = .agg arr.toList.toArray ∧ rSpan arr.toList x := by
  obtain ⟨fuel, hf⟩ := h
  obtain ⟨d', hd⟩ := rd_of_trod (P := Tryz.prog) 12 34 .nil (sh2) _ [] .nil fuel _ (by kernel_rfl) hf ⟨rfl, rfl⟩
  obtain ⟨x, hx⟩ := rd_span hd
  rw [List.append_nil] at hx
  cases v with
  | agg arr => exact ⟨arr, x, by simp, hx⟩
  | _ => obtain ⟨e, _⟩ := hx; simp [Value.cells] at e
set_option maxRecDepth 100000 in
theorem lifted (os : Os) (started : os.Started) (H : Type) (enc : TypeId × Value → H) :
    ReturnsInHanded {} Tryz.checked os 5 .any (Rows.eventDroppedSpec.pre6 enc Tryz.prog Tryz.f5 Rows.eventDroppedRow.domain false) (Rows.eventDroppedSpec.post enc Tryz.prog Tryz.f5 false true false false) := by
  refine returnsInHanded_of_change_sized (C := Tryz.checked) own started (by kernel_rfl) Tryz.func5
    (ChangeSpec.witness6 (enc := enc) (C := Tryz.checked) false ⟨#[], #[.agg #[.int .i64 0, .slice none 0 0], .agg #[.int .i64 0, .int .i64 0, .bool false, .bool false, .int .i64 0, .int .i64 0, .int .i64 0, .int .i64 0, .slice none 0 0, .slice none 0 0, .slice none 0 0, .slice none 0 0, .int .i64 0, .slice none 0 0, .slice none 0 0, .slice none 0 0], .agg #[.int .i64 0, .int .i64 0], .int .u16 0], []⟩ 8 (by kernel_rfl) (by kernel_rfl) (by kernel_rfl) (by kernel_rfl)) ?_
  intro W base args ds gs before hval0 hW hcnd hsz0 _
  have hval : ∀ (j : Nat) t v, Tryz.f5.params[j]? = some t → args[j]? = some v → Value.okWide Tryz.prog W .any base t v := hval0
  have hW' := hW
  obtain ⟨p, q, hA0, hV, rfl, hfz, hnd⟩ := hW
  have hA : DataW.TrodAll enc Tryz.prog W 0 (fun _ => true) true Tryz.f5.params.toList args.toList ds p := hA0
  rw [Tryz.params5] at hA hval
  obtain ⟨v0, vs0, d0, ds0, p0, q0, hargs, rfl, rfl, h0, r0⟩ := trodAll_cons hA
  obtain ⟨v1, vs1, d1, ds1, p1, q1, rfl, rfl, rfl, h1, r1⟩ := trodAll_cons r0
  obtain ⟨v2, vs2, d2, ds2, p2, q2, rfl, rfl, rfl, h2, r2⟩ := trodAll_cons r1
  obtain ⟨v3, vs3, d3, ds3, p3, q3, rfl, rfl, rfl, h3, r3⟩ := trodAll_cons r2
  obtain ⟨rfl, rfl, rfl⟩ := trodAll_nil r3
  obtain rfl : args = #[v0, v1, v2, v3] := by cases args; simp_all
  obtain ⟨rfl, rfl⟩ := trodVars_none hV
  have lt0 : ∀ x ∈ p0, x.block < W.heap.size := fun x hx => by simpa using hW'.lt x (by simp [hx])
  have k0 := h0
  obtain ⟨c0, x0, rfl, y0⟩ := opened_zn h0
  have lt1 : ∀ x ∈ p1, x.block < W.heap.size := fun x hx => by simpa using hW'.lt x (by simp [hx])
  have k1 := h1
  obtain ⟨c1, x1, rfl, y1⟩ := opened_ev h1
  have lt2 : ∀ x ∈ p2, x.block < W.heap.size := fun x hx => by simpa using hW'.lt x (by simp [hx])
  have k2 := h2
  obtain ⟨c2, x2, rfl, y2⟩ := opened_sp h2
  obtain ⟨e2, wa2, wb2⟩ := y2
  obtain rfl : c2 = #[.int .i64 x2.1, .int .i64 x2.2] := by rw [← Array.toArray_toList (xs := c2), e2]
  obtain ⟨a3, rfl, rfl, rfl, w3⟩ := open_int Tryz.underlying42 (hval 3 42 v3 rfl rfl) h3
  clear hA0 hval0 hsz0
  refine (drop_law c0.toList x0 c1.toList x1 x2.1 x2.2 a3 W y0 y1 wa2 wb2 (wfi_of w3)).mono fun e W' ⟨he, bel⟩ => ?_
  subst he
  exact ⟨_, rfl, _, _, _, [], _, [], hW', trodAll_mk1 (shut_bool Tryz.underlying4 _), (trodAll_cons_mk (Below.trod laidOut (by kernel_rfl) (of_decide_eq_true (by kernel_rfl)) k0 bel lt0) (trodAll_cons_mk (Below.trod laidOut (by kernel_rfl) (of_decide_eq_true (by kernel_rfl)) k1 bel lt1) (trodAll_cons_mk (Below.trod laidOut (by kernel_rfl) (of_decide_eq_true (by kernel_rfl)) k2 bel lt2) (trodAll_cons_mk (shut_int Tryz.underlying42 w3) trodAll_mk0)))), rfl, bel.frame _, fun h => by cases h⟩
theorem over : Rows.eventDroppedRow.holds Tryz.pinned (OpenSpec.ofChange Rows.eventDroppedSpec) :=
  OpenClaim.holds_of_wide 5 Tryz.f5 rfl rfl rfl rfl rfl rfl rfl ⟨rfl, rfl, rfl, rfl, rfl⟩ rfl rfl rfl rfl rfl (by kernel_rfl) Tryz.func5 (by kernel_rfl)
    (of_decide_eq_true (by kernel_rfl)) (by unfold Func.isWrapper; first | (rw [if_pos (by decide +kernel)]; kernel_rfl) | (rw [if_neg (by decide +kernel)]; exact ⟨rfl, rfl⟩))
    (fun os started H enc _ => lifted os started H enc)
end Go.Proofs.YtechgcjdigpglaaGreat.eventDropped
namespace Go.Proofs.YtechgcjdigpglaaGreat
theorem eventDropped_holds : Rows.EventDroppedSaid := eventDropped.over
#print axioms eventDropped_holds
end Go.Proofs.YtechgcjdigpglaaGreat
