/- The walk of law 24's example: it holds. No condition. -/
import Derived.Test.YtcleicjgeflbnaaG25
namespace Go.Proofs.Ytcleicjgeflbnaa
open Go.RowKit Go.ChangeShapes Go.WideShapes Go.Deep

theorem Row.lit {α : Type} {w : World} {g k n : Nat} {R : List Value → α → Prop} {xs : List α} {cs : List Value} {t : TypeId} {fr : Nat × Nat} (h : w.heap[g]? = some (.cells cs.toArray t fr)) (hl : xs.length = n) (hm : n ≤ maxLen) (hlen : cs.length = n * k)
    (hR : ∀ (i : Nat) (x : α), xs[i]? = some x → R ((cs.drop (i * k)).take k) x) : Row w k R (.slice (some ⟨g, 0, none⟩) n n) xs := by
  refine ⟨some ⟨g, 0, none⟩, n, n, rfl, fun e => by simp at e, hl, Nat.le_refl _, hm, fun i x hx => ?_⟩
  have hi : i < n := by have := (List.getElem?_eq_some_iff.1 hx).1; omega
  have hle : i * k + k ≤ n * k := by have := Nat.mul_le_mul_right k hi; rw [Nat.succ_mul] at this; exact this
  refine ⟨⟨g, 0, none⟩, _, rfl, by rw [List.length_take, List.length_drop, hlen]; omega, fun j hj => ?_, hR i x hx⟩
  have hadd : (⟨g, 0, none⟩ : Addr).add (i * k + j) = ⟨g, i * k + j, none⟩ := by unfold Addr.add; split <;> simp_all
  rw [hadd, cell_of_row _ _ _ _ _ _ h, List.getElem?_take, if_pos hj, List.getElem?_drop]
  simp

def fxP : PollD := ⟨1, 2, ⟨0, 0, 0, 0, [], [], 0, [], []⟩, [5, 6], [⟨1, 0⟩, ⟨1, 1⟩, ⟨2, 1⟩], 0, 1, 0⟩
def fxS : StateD := ⟨0, [], [fxP], []⟩
def fxA : AskD := ⟨0, 2, 0, 0, 0, ⟨0, [], [], [], 0, 0⟩, ⟨0, 0, false, false, ⟨0, 0, 0, 0, [], [], [], [], 0⟩, [], [], []⟩, ⟨0, 0, 0, 0, [], [], 0, [], []⟩, ByteArray.empty, 0, 1, 0, false, 0⟩
theorem fxW : fxP.winTo fxP.slots.length = 1 := by decide
theorem wz {k : IntKind} {n : Int} (h : decide (k.min ≤ n ∧ n ≤ k.max) = true) : wfi k n := of_decide_eq_true (p := k.min ≤ n ∧ n ≤ k.max) h

theorem fx_state (w : World) : rState ((((w.alloc (.cells #[.int .i64 5, .int .i64 6] 2)).alloc (.cells #[.int .u32 1, .int .i64 0, .int .u32 1, .int .i64 1, .int .u32 2, .int .i64 1] 68)).alloc (.cells #[.int .u32 1, .int .u32 2, .int .i64 0, .int .i64 0, .int .i64 0, .int .i64 0, .slice none 0 0, .slice none 0 0, .int .i64 0, .slice none 0 0, .slice none 0 0, .slice (some ⟨w.heap.size, 0, none⟩) 2 2, .slice (some ⟨w.heap.size + 1, 0, none⟩) 3 3, .int .i64 0, .int .i64 1, .int .i64 0] 64)).alloc (.cells #[.int .i64 0, .slice none 0 0, .slice (some ⟨w.heap.size + 1 + 1, 0, none⟩) 1 1, .slice none 0 0] 26)) [.int .i64 0, .slice none 0 0, .slice (some ⟨w.heap.size + 1 + 1, 0, none⟩) 1 1, .slice none 0 0] fxS := by
  have h5 : ((((w.alloc (.cells #[.int .i64 5, .int .i64 6] 2)).alloc (.cells #[.int .u32 1, .int .i64 0, .int .u32 1, .int .i64 1, .int .u32 2, .int .i64 1] 68)).alloc (.cells #[.int .u32 1, .int .u32 2, .int .i64 0, .int .i64 0, .int .i64 0, .int .i64 0, .slice none 0 0, .slice none 0 0, .int .i64 0, .slice none 0 0, .slice none 0 0, .slice (some ⟨w.heap.size, 0, none⟩) 2 2, .slice (some ⟨w.heap.size + 1, 0, none⟩) 3 3, .int .i64 0, .int .i64 1, .int .i64 0] 64)).alloc (.cells #[.int .i64 0, .slice none 0 0, .slice (some ⟨w.heap.size + 1 + 1, 0, none⟩) 1 1, .slice none 0 0] 26)).heap[w.heap.size]? = some (.cells #[.int .i64 5, .int .i64 6] 2) := (heap_alloc_old _ _ (by simp; omega)).trans (heap_alloc3_old w _ _ _)
  have hv : ((((w.alloc (.cells #[.int .i64 5, .int .i64 6] 2)).alloc (.cells #[.int .u32 1, .int .i64 0, .int .u32 1, .int .i64 1, .int .u32 2, .int .i64 1] 68)).alloc (.cells #[.int .u32 1, .int .u32 2, .int .i64 0, .int .i64 0, .int .i64 0, .int .i64 0, .slice none 0 0, .slice none 0 0, .int .i64 0, .slice none 0 0, .slice none 0 0, .slice (some ⟨w.heap.size, 0, none⟩) 2 2, .slice (some ⟨w.heap.size + 1, 0, none⟩) 3 3, .int .i64 0, .int .i64 1, .int .i64 0] 64)).alloc (.cells #[.int .i64 0, .slice none 0 0, .slice (some ⟨w.heap.size + 1 + 1, 0, none⟩) 1 1, .slice none 0 0] 26)).heap[w.heap.size + 1]? = some (.cells #[.int .u32 1, .int .i64 0, .int .u32 1, .int .i64 1, .int .u32 2, .int .i64 1] 68) := (heap_alloc_old _ _ (by simp)).trans (heap_alloc3_mid w _ _ _)
  have hp : ((((w.alloc (.cells #[.int .i64 5, .int .i64 6] 2)).alloc (.cells #[.int .u32 1, .int .i64 0, .int .u32 1, .int .i64 1, .int .u32 2, .int .i64 1] 68)).alloc (.cells #[.int .u32 1, .int .u32 2, .int .i64 0, .int .i64 0, .int .i64 0, .int .i64 0, .slice none 0 0, .slice none 0 0, .int .i64 0, .slice none 0 0, .slice none 0 0, .slice (some ⟨w.heap.size, 0, none⟩) 2 2, .slice (some ⟨w.heap.size + 1, 0, none⟩) 3 3, .int .i64 0, .int .i64 1, .int .i64 0] 64)).alloc (.cells #[.int .i64 0, .slice none 0 0, .slice (some ⟨w.heap.size + 1 + 1, 0, none⟩) 1 1, .slice none 0 0] 26)).heap[w.heap.size + 1 + 1]? = some (.cells #[.int .u32 1, .int .u32 2, .int .i64 0, .int .i64 0, .int .i64 0, .int .i64 0, .slice none 0 0, .slice none 0 0, .int .i64 0, .slice none 0 0, .slice none 0 0, .slice (some ⟨w.heap.size, 0, none⟩) 2 2, .slice (some ⟨w.heap.size + 1, 0, none⟩) 3 3, .int .i64 0, .int .i64 1, .int .i64 0] 64) := (heap_alloc_old _ _ (by simp)).trans (heap_alloc3_new w _ _ _)
  generalize ((((w.alloc (.cells #[.int .i64 5, .int .i64 6] 2)).alloc (.cells #[.int .u32 1, .int .i64 0, .int .u32 1, .int .i64 1, .int .u32 2, .int .i64 1] 68)).alloc (.cells #[.int .u32 1, .int .u32 2, .int .i64 0, .int .i64 0, .int .i64 0, .int .i64 0, .slice none 0 0, .slice none 0 0, .int .i64 0, .slice none 0 0, .slice none 0 0, .slice (some ⟨w.heap.size, 0, none⟩) 2 2, .slice (some ⟨w.heap.size + 1, 0, none⟩) 3 3, .int .i64 0, .int .i64 1, .int .i64 0] 64)).alloc (.cells #[.int .i64 0, .slice none 0 0, .slice (some ⟨w.heap.size + 1 + 1, 0, none⟩) 1 1, .slice none 0 0] 26)) = W at h5 hv hp ⊢
  refine ⟨_, _, _, rfl, wz (by decide), Row.empty .., Row.lit (cs := [.int .u32 1, .int .u32 2, .int .i64 0, .int .i64 0, .int .i64 0, .int .i64 0, .slice none 0 0, .slice none 0 0, .int .i64 0, .slice none 0 0, .slice none 0 0, .slice (some ⟨w.heap.size, 0, none⟩) 2 2, .slice (some ⟨w.heap.size + 1, 0, none⟩) 3 3, .int .i64 0, .int .i64 1, .int .i64 0]) hp rfl (by decide) rfl (fun i x hx => ?_), Row.empty ..⟩
  match i, hx with
  | 0, hx =>
    cases hx
    refine ⟨[_, _, _, _, _, _, _, _, _], _, _, rfl, wz (by decide), wz (by decide), wz (by decide), wz (by decide), wz (by decide), ⟨_, _, _, _, rfl, wz (by decide), wz (by decide), wz (by decide), wz (by decide), wz (by decide), Row.empty .., Row.empty .., Row.empty .., Row.empty ..⟩,
      Row.lit (cs := [.int .i64 5, .int .i64 6]) h5 rfl (by decide) rfl (fun i x hx => ?_), Row.lit (cs := [.int .u32 1, .int .i64 0, .int .u32 1, .int .i64 1, .int .u32 2, .int .i64 1]) hv rfl (by decide) rfl (fun i x hx => ?_)⟩
    · match i, hx with
      | 0, hx => cases hx; exact ⟨rfl, wz (by decide)⟩
      | 1, hx => cases hx; exact ⟨rfl, wz (by decide)⟩
      | i + 2, hx => simp [fxP] at hx
    · match i, hx with
      | 0, hx => cases hx; exact ⟨rfl, wz (by decide), wz (by decide)⟩
      | 1, hx => cases hx; exact ⟨rfl, wz (by decide), wz (by decide)⟩
      | 2, hx => cases hx; exact ⟨rfl, wz (by decide), wz (by decide)⟩
      | i + 3, hx => simp [fxP] at hx
  | i + 1, hx => simp [fxS] at hx

theorem fx_ask : AskA #[.int .i64 0, .int .u32 2, .int .u64 0, .int .u32 0, .int .u32 0, .int .i64 0, .slice none 0 0, .slice none 0 0, .slice none 0 0, .int .i64 0, .int .i64 0, .int .i64 0, .int .i64 0, .bool false, .bool false, .int .i64 0, .int .i64 0, .int .i64 0, .int .i64 0, .slice none 0 0, .slice none 0 0, .slice none 0 0, .slice none 0 0, .int .i64 0, .slice none 0 0, .slice none 0 0, .slice none 0 0, .int .i64 0, .int .i64 0, .int .i64 0, .int .i64 0, .slice none 0 0, .slice none 0 0, .int .i64 0, .slice none 0 0, .slice none 0 0, .string ⟨#[]⟩, .int .i64 0, .int .u32 1, .int .i64 0, .bool false, .int .i64 0] fxA := ⟨rfl, fun _ => rfl, fun _ => rfl, fun _ => rfl⟩
theorem fx_rises : rises (·.id) fxS.polls := fun i a b _ hb => by simp [fxS] at hb

set_option maxRecDepth 100000 in
theorem fixed_any (w : World) : Calls Try.prog 6 #[] w fun e w' => e = .returned (.bool true) ∧ Below w.heap.size w w' := by
  have HB := Lib.hid (show Below w.heap.size w ((((w.alloc (.cells #[.int .i64 5, .int .i64 6] 2)).alloc (.cells #[.int .u32 1, .int .i64 0, .int .u32 1, .int .i64 1, .int .u32 2, .int .i64 1] 68)).alloc (.cells #[.int .u32 1, .int .u32 2, .int .i64 0, .int .i64 0, .int .i64 0, .int .i64 0, .slice none 0 0, .slice none 0 0, .int .i64 0, .slice none 0 0, .slice none 0 0, .slice (some ⟨w.heap.size, 0, none⟩) 2 2, .slice (some ⟨w.heap.size + 1, 0, none⟩) 3 3, .int .i64 0, .int .i64 1, .int .i64 0] 64)).alloc (.cells #[.int .i64 0, .slice none 0 0, .slice (some ⟨w.heap.size + 1 + 1, 0, none⟩) 1 1, .slice none 0 0] 26)) from ((((Below.refl _ _).alloc (Nat.le_refl _) _).alloc (by simp) _).alloc (by simp; omega) _).alloc (by simp; omega) _)
  have C := Lib.hid (close_ok [.int .i64 0, .slice none 0 0, .slice (some ⟨w.heap.size + 1 + 1, 0, none⟩) 1 1, .slice none 0 0] #[.int .i64 0, .int .u32 2, .int .u64 0, .int .u32 0, .int .u32 0, .int .i64 0, .slice none 0 0, .slice none 0 0, .slice none 0 0, .int .i64 0, .int .i64 0, .int .i64 0, .int .i64 0, .bool false, .bool false, .int .i64 0, .int .i64 0, .int .i64 0, .int .i64 0, .slice none 0 0, .slice none 0 0, .slice none 0 0, .slice none 0 0, .int .i64 0, .slice none 0 0, .slice none 0 0, .slice none 0 0, .int .i64 0, .int .i64 0, .int .i64 0, .int .i64 0, .slice none 0 0, .slice none 0 0, .int .i64 0, .slice none 0 0, .slice none 0 0, .string ⟨#[]⟩, .int .i64 0, .int .u32 1, .int .i64 0, .bool false, .int .i64 0] fxS fxA _ (fx_state w) fx_ask fx_rises (by decide) 0 fxP rfl rfl rfl rfl)
  go_enter Try.func6, Try.ntmps6
  go_wp2_with fail
  (with_reducible refine C.out.mono ?_)
  rintro e w1 ⟨cs', he, hst, hb1⟩
  rw [show Array.mk cs' = cs'.toArray from rfl, fxW] at he
  have HB2 := Lib.hid (below_call HB.out hb1)
  obtain ⟨u, p, d, rfl, _, ⟨o1, n1, c1, rfl, _⟩, hp, ⟨o3, n3, c3, rfl, _⟩⟩ := hst
  obtain ⟨o2, n2, c2, rfl, l2, _, _, R2⟩ := hp.open
  simp only [fxS, List.set_cons_zero, List.length_cons, List.length_nil, Nat.zero_add] at l2
  subst l2
  obtain ⟨y, a1, cs1, hy, rfl, q1, q3, q0, q2⟩ := R2.elem (Below.refl w1.heap.size w1) 0 (by decide)
  have hw : y.winner = 1 := by
    simp only [fxS, List.set_cons_zero, List.getElem?_cons_zero, Option.some.injEq] at hy
    rw [← hy]
    show ((fxP.winTo fxP.slots.length : Nat) : Int) = 1
    rw [fxW]; rfl
  have hc := q2 15 (by decide) (by decide)
  rw [q3.at15, hw] at hc
  have h0 : a1.add (0 * 16) = a1 := by unfold Addr.add; simp
  rw [h0] at hc
  have hlt := World.block_lt_of_cell? _ _ hc
  simp only at hlt
  clear q0 q1 q2 q3 hy hw R2 hp hb1
  subst he
  go_wp2_with fail
  go_ret
  exact ⟨rfl, HB2.out.alloc HB2.out.size _⟩
end Go.Proofs.Ytcleicjgeflbnaa
