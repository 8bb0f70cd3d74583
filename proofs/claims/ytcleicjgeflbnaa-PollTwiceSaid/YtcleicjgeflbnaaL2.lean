/- The row of PollTwice: called with any arguments the law answers true and leaves all as it was. Conditions: none. -/
import Derived.Test.YtcleicjgeflbnaaRows
import Derived.Test.YtcleicjgeflbnaaG57
import Derived.WalkKit
import Derived.ProofKit
import Derived.OpenShut
import Derived.ChangeOld
import Derived.Below
import Derived.Carry
import Derived.SizedLaws
namespace Go.Proofs.Ytcleicjgeflbnaa.pollTwice
open Go.ChangeShapes Go.WideShapes Go.ChangeAt Go.RowKit
set_option linter.unusedVariables false
theorem own : ownKnob Try.prog.godebug = none := by kernel_rfl
theorem laidOut : laidOutB Try.prog = true := by kernel_rfl
theorem opened_st {H : Type} {enc : TypeId × Value → H} {W : World} {v : Value} {d : DataW H} {p : List MemPlace} (h : DataW.Trod enc Try.prog W 0 (fun _ => true) true 26 v d p) :
    ∃ (arr : Array Value) (x : StateD), v = .agg arr.toList.toArray ∧ rState W arr.toList x := by
  obtain ⟨fuel, hf⟩ := h
  obtain ⟨d', hd⟩ := rd_of_trod (P := Try.prog) 12 26 .nil (shState .nil) _ [] .nil fuel _ (by kernel_rfl) hf ⟨rfl, rfl⟩
  obtain ⟨x, hx⟩ := rd_state hd
  rw [List.append_nil] at hx
  cases v with
  | agg arr => exact ⟨arr, x, by simp, hx⟩
  | _ => obtain ⟨_, _, _, e, _⟩ := hx; simp [Value.cells] at e
theorem opened_ask {H : Type} {enc : TypeId × Value → H} {W : World} {v : Value} {d : DataW H} {p : List MemPlace} (h : DataW.Trod enc Try.prog W 0 (fun _ => true) true 54 v d p) :
    ∃ (arr : Array Value) (x : AskD), v = .agg arr.toList.toArray ∧ rAsk W arr.toList x := by
  obtain ⟨fuel, hf⟩ := h
  obtain ⟨d', hd⟩ := rd_of_trod (P := Try.prog) 12 54 .nil (shAsk .nil) _ [] .nil fuel _ (by kernel_rfl) hf ⟨rfl, rfl⟩
  obtain ⟨x, hx⟩ := rd_ask hd
  rw [List.append_nil] at hx
  cases v with
  | agg arr => exact ⟨arr, x, by simp, hx⟩
  | _ => obtain ⟨_, _, _, e, _⟩ := hx; simp [Value.cells] at e
set_option maxHeartbeats 4000000 in
set_option maxRecDepth 100000 in
theorem lifted (os : Os) (started : os.Started) (H : Type) (enc : TypeId × Value → H) :
    ReturnsInHanded {} Try.checked os 4 .any (Rows.pollTwiceSpec.pre6 enc Try.prog Try.f4 Rows.pollTwiceRow.domain false) (Rows.pollTwiceSpec.post enc Try.prog Try.f4 false true false false) := by
  refine returnsInHanded_of_change_sized (C := Try.checked) own started (by kernel_rfl) Try.func4
    (ChangeSpec.witness6 (enc := enc) (C := Try.checked) false ⟨#[], #[.agg #[.int .i64 0, .slice none 0 0, .slice none 0 0, .slice none 0 0], .agg #[.int .i64 0, .int .u32 0, .int .u64 0, .int .u32 0, .int .u32 0, .int .i64 0, .slice none 0 0, .slice none 0 0, .slice none 0 0, .int .i64 0, .int .i64 0, .int .i64 0, .int .i64 0, .bool false, .bool false, .int .i64 0, .int .i64 0, .int .i64 0, .int .i64 0, .slice none 0 0, .slice none 0 0, .slice none 0 0, .slice none 0 0, .int .i64 0, .slice none 0 0, .slice none 0 0, .slice none 0 0, .int .i64 0, .int .i64 0, .int .i64 0, .int .i64 0, .slice none 0 0, .slice none 0 0, .int .i64 0, .slice none 0 0, .slice none 0 0, .string ByteArray.empty, .int .i64 0, .int .u32 0, .int .i64 0, .bool false, .int .i64 0]], []⟩ 8 (by kernel_rfl) (by kernel_rfl) (by kernel_rfl) (by kernel_rfl)) ?_
  intro W base args ds gs before hval0 hW hcnd hsz0 _
  have hval : ∀ (j : Nat) t v, Try.f4.params[j]? = some t → args[j]? = some v → Value.okWide Try.prog W .any base t v := hval0
  have hW' := hW
  obtain ⟨p, q, hA0, hV, rfl, hfz, hnd⟩ := hW
  have hA : DataW.TrodAll enc Try.prog W 0 (fun _ => true) true Try.f4.params.toList args.toList ds p := hA0
  rw [Try.params4] at hA hval
  obtain ⟨v0, vs0, d0, ds0, p0, q0, hargs, rfl, rfl, h0, r0⟩ := trodAll_cons hA
  obtain ⟨v1, vs1, d1, ds1, p1, q1, rfl, rfl, rfl, h1, r1⟩ := trodAll_cons r0
  obtain ⟨rfl, rfl, rfl⟩ := trodAll_nil r1
  obtain rfl : args = #[v0, v1] := by cases args; simp_all
  obtain ⟨rfl, rfl⟩ := trodVars_none hV
  have lt0 : ∀ x ∈ p0, x.block < W.heap.size := fun x hx => by simpa using hW'.lt x (by simp [hx])
  have k0 := h0
  obtain ⟨c0, x0, rfl, y0⟩ := opened_st h0
  have lt1 : ∀ x ∈ p1, x.block < W.heap.size := fun x hx => by simpa using hW'.lt x (by simp [hx])
  have k1 := h1
  obtain ⟨c1, x1, rfl, y1⟩ := opened_ask h1
  clear hA0 hval0 hsz0
  refine (pollTwice_walk c0.toList c1.toList x0 x1 W y0 y1).mono fun e W' ⟨he, bel⟩ => ?_
  subst he
  exact ⟨_, rfl, _, _, _, [], _, [], hW', trodAll_mk1 (shut_bool Try.underlying4 _), (trodAll_cons_mk (Below.trod laidOut (by kernel_rfl) (of_decide_eq_true (by kernel_rfl)) k0 bel lt0) (trodAll_cons_mk (Below.trod laidOut (by kernel_rfl) (of_decide_eq_true (by kernel_rfl)) k1 bel lt1) trodAll_mk0)), rfl, bel.frame _, fun h => by cases h⟩
theorem over : Rows.pollTwiceRow.holds Try.pinned (OpenSpec.ofChange Rows.pollTwiceSpec) :=
  OpenClaim.holds_of_wide 4 Try.f4 rfl rfl rfl rfl rfl rfl rfl ⟨rfl, rfl, rfl, rfl, rfl⟩ rfl rfl rfl rfl rfl (by kernel_rfl) Try.func4 (by kernel_rfl)
    (of_decide_eq_true (by kernel_rfl)) (by unfold Func.isWrapper; first | (rw [if_pos (by decide +kernel)]; kernel_rfl) | (rw [if_neg (by decide +kernel)]; exact ⟨rfl, rfl⟩))
    (fun os started H enc _ => lifted os started H enc)
end Go.Proofs.Ytcleicjgeflbnaa.pollTwice
namespace Go.Proofs.Ytcleicjgeflbnaa
theorem pollTwice_holds : Rows.PollTwiceSaid := pollTwice.over
#print axioms pollTwice_holds
end Go.Proofs.Ytcleicjgeflbnaa
