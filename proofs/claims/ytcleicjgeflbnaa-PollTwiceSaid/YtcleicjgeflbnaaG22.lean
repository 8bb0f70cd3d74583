/- The walk of Yes: how many said yes to a place. No condition but that the argument reads. -/
import Derived.Test.YtcleicjgeflbnaaG19
namespace Go.Proofs.Ytcleicjgeflbnaa
open Go.RowKit Go.ChangeShapes Go.WideShapes Go.Deep

def PollD.yes (p : PollD) (s : Int) : Nat := p.votes.countP (fun v => decide (v.slot = s))

set_option maxHeartbeats 4000000 in
theorem yes_any (cs : List Value) (p : PollD) (s : Int) (w : World) (h : rPoll w cs p) :
    Calls Try.prog 28 #[.agg cs.toArray, .int .i64 s] w fun e w' => e = .returned (.int .i64 (p.yes s : Nat)) ∧ Below w.heap.size w w' := by
  obtain ⟨qq, qs, qv, rfl, _, _, _, _, _, ⟨qm, qy, qa, qp, rfl, _, _, _, _, _, ⟨om, nm, cm, rfl, _⟩, ⟨oy, ny, cy, rfl, _⟩, ⟨oa, na, ca, rfl, _⟩, ⟨op, np, cp, rfl, _⟩⟩, ⟨os, ns', cs', rfl, _⟩, hv⟩ := h
  obtain ⟨ov, nv, cv, rfl, lv, nvc, kv, RV⟩ := hv.open
  simp only [List.cons_append, List.nil_append]
  have hM : nv < 9223372036854775808 := by (unfold maxLen at kv; omega)
  have S := Lib.hid RV; have L := Lib.hid lv
  clear hv RV lv nvc kv
  go_enter Try.func28, Try.ntmps28
  go_wp2_with fail
  go_loopw [5, 11] (fun a b wr => ∃ k c : Nat, a = .int .i64 c ∧ b = .int .i64 k ∧ k ≤ nv ∧ c ≤ k ∧ Below w.heap.size w wr ∧ w.heap.size < wr.heap.size ∧ Hid (c = (p.votes.take k).countP (fun v => decide (v.slot = s)))) (fun _ b _ => nv - (intOf b).toNat)
  case atStart => exact ⟨0, 0, rfl, rfl, Nat.zero_le _, Nat.le_refl _, (Below.refl _ _).alloc (Nat.le_refl _) _, by simp, by simp [Hid]⟩
  case round =>
    obtain ⟨k, c, rfl, rfl, hk, hck, hbw, hz, I⟩ := hrel
    obtain ⟨wl, rfl⟩ : ∃ x, x = wr := ⟨_, rfl⟩
    have HB := Lib.hid hbw
    clear hbw
    by_cases hlt : k < nv
    · have hlt' : (k : Int) < (nv : Int) := by omega
      obtain ⟨y, a1, cs1, hx, rfl, q1, ⟨rfl, _, _⟩, q0, q2⟩ := S.out.elem HB.out k hlt
      have e0 := q0 (by decide)
      have e1 := q2 1 (by decide) (by decide)
      simp only [List.getElem?_cons_zero, List.getElem?_cons_succ] at e0 e1
      have Hx := Lib.hid hx
      have HBo := Lib.hid (fun (o : Obj) => HB.out.alloc (Nat.le_of_lt hz) o)
      clear q0 q1 q2 hx
      by_cases hs : y.slot = s
      · have I2 := Lib.hid (show c + 1 = (p.votes.take (k + 1)).countP (fun v => decide (v.slot = s)) by rw [List.take_add_one, Hx.out]; simp [hs, ← I.out])
        subst hs
        go_wp2_with fail
        go_roundw
        case measure => simp [intOf]; omega
        case rel => exact ⟨k + 1, c + 1, by go_num, by go_num, by omega, by omega, HBo.out _, by simp; omega, I2.out⟩
      · have I2 := Lib.hid (show c = (p.votes.take (k + 1)).countP (fun v => decide (v.slot = s)) by rw [List.take_add_one, Hx.out]; simp [hs, ← I.out])
        have b1 : (y.slot == s) = false := by simpa using hs
        go_wp2_with fail
        go_roundw
        case measure => simp [intOf]; omega
        case rel => exact ⟨k + 1, c, rfl, by go_num, by omega, by omega, HBo.out _, by simp; omega, I2.out⟩
    · obtain rfl : nv = k := by omega
      have I2 := Lib.hid (show c = p.yes s by rw [I.out, List.take_of_length_le (by rw [L.out]; exact Nat.le_refl _)]; rfl)
      go_wp2_with fail
      go_ret
      exact ⟨by rw [I2.out]; rfl, HB.out⟩
end Go.Proofs.Ytcleicjgeflbnaa
