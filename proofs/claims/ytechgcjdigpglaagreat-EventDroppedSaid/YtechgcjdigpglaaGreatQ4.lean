/- slices.Sort, Compact at rows of the call's own; slices.BinarySearch; event.has. -/
import Derived.Test.YtechgcjdigpglaaGreatSH1
import Derived.Test.YtechgcjdigpglaaGreatQ3
import Derived.Lib.OwnBridge
namespace Go.Proofs.YtechgcjdigpglaaGreat
open Go.RowKit Go.ChangeShapes Go.WideShapes Go.Deep Go.Sort
set_option linter.all false

theorem below_grow0 (W : World) (os : Array Obj) : Below W.heap.size W (grow W os) :=
  ⟨rfl, rfl, rfl, by simp, fun k hk => by simp [grow, Array.getElem?_append, hk]⟩

theorem sortI_any {w0 w : World} {B : Nat} {v : Value} {xs : List Int} (ho : w.ownsRow B 2 1 v xs.length (inC xs)) (hb : Below B w0 w) (hB : B ≤ w.heap.size) (hn : xs.length ≤ 1000000) :
    Calls Tryz.prog 89 #[v] w fun e w' => e = .returned (.tuple #[]) ∧ w'.ownsRow B 2 1 v xs.length (inC (xs.mergeSort fun x y => decide (x ≤ y))) ∧ Below B w0 w' := by
  by_cases hv : v = .slice none 0 0
  · subst hv
    have hx : xs = [] := by
      obtain ⟨_, ⟨_, h⟩ | ⟨g, cap, cur, e, _⟩⟩ := ho
      · exact List.eq_nil_of_length_eq_zero h
      · cases e
    subst hx
    have h := AnyM.slices_Sort_int_none Tryz.laySort64 none 0 w
    change Calls Tryz.prog 89 _ _ _ at h
    refine h.mono ?_
    rintro e w' ⟨rfl, rfl⟩
    exact ⟨rfl, by simpa using ho, hb⟩
  · have ho2 := ho
    rw [inC_map] at ho2
    obtain ⟨g, cap, rfl, hg, hgs, hnc, hcm, hl, hH⟩ := Lib.holds_of_ownsRow ho2 hv
    have h := AnyM.slices_Sort_int Tryz.laySort64 g 0 cap xs w hH hgs (by omega)
    change Calls Tryz.prog 89 _ _ _ at h
    refine h.mono ?_
    rintro e w' ⟨rfl, n, os, rfl⟩
    have hbb := Lib.below_putRow (enc := Value.int .i64) (q := n) (d := (xs.mergeSort fun x y => decide (x ≤ y)).toArray) hb hg
    refine ⟨rfl, own_laterI (w := putRow (Value.int .i64) (Sort.ahead w n) g 0 (xs.mergeSort fun x y => decide (x ≤ y)).toArray) ?_ (below_grow0 _ _), hbb.trans ((below_grow0 _ _).mono (by simp [putRow, mapBlock, Sort.ahead]; omega))⟩
    have := Lib.ownsRow_putRow (q := n) (k := xs.length) (ys := xs.mergeSort fun x y => decide (x ≤ y)) ho2 (by simp) (Nat.le_refl _)
    rw [List.take_of_length_le (by simp)] at this
    rw [inC_map]
    exact this

theorem compactI_any {w0 w : World} {B : Nat} {v : Value} {xs : List Int} (ho : w.ownsRow B 2 1 v xs.length (inC xs)) (hb : Below B w0 w) (hB : B ≤ w.heap.size) (hn : xs.length ≤ 1000000) :
    Calls Tryz.prog 90 #[v] w fun e w' => ∃ v', e = .returned v' ∧ w'.ownsRow B 2 1 v' (Lib.compact xs).length (inC (Lib.compact xs)) ∧ Below B w0 w' := by
  by_cases hv : v = .slice none 0 0
  · subst hv
    have hx : xs = [] := by
      obtain ⟨_, ⟨_, h⟩ | ⟨g, cap, cur, e, _⟩⟩ := ho
      · exact List.eq_nil_of_length_eq_zero h
      · cases e
    subst hx
    have h := AnyG.slices_Compact_int_empty Tryz.layCompact64 none 0 w
    change Calls Tryz.prog 90 _ _ _ at h
    refine h.mono ?_
    rintro e w' ⟨rfl, rfl⟩
    exact ⟨_, rfl, World.ownsRow_nil _ _ _ _, hb⟩
  · have ho2 := ho
    rw [inC_map] at ho2
    obtain ⟨g, cap, rfl, hg, hgs, hnc, hcm, hl, hH⟩ := Lib.holds_of_ownsRow ho2 hv
    have h := AnyG.slices_Compact_int Tryz.layCompact64 g 0 cap xs w hH (by omega) hnc
    change Calls Tryz.prog 90 _ _ _ at h
    refine h.mono ?_
    rintro e w' ⟨rfl, q, rfl⟩
    have hle := Lib.compact_length_le xs
    refine ⟨_, rfl, ?_, Lib.below_putRow hb hg⟩
    have := Lib.ownsRow_putRow (q := q) (k := (Lib.compact xs).length) (ys := Lib.compact xs ++ List.replicate (xs.length - (Lib.compact xs).length) 0) ho2 (by simp; omega) hle
    rw [List.take_left'] at this
    · rw [inC_map]; exact this
    · rfl

theorem addr_add_at (b o j : Nat) : (⟨b, o, none⟩ : Addr).add j = ⟨b, o + j, none⟩ := by
  unfold Addr.add
  by_cases h : j = 0 <;> simp [h]
theorem spot_none {w : World} {a : Addr} {v : Value} (h : w.cell? a = some v) : a = ⟨a.block, a.off, none⟩ := by
  obtain ⟨b, o, s⟩ := a
  cases s with
  | none => rfl
  | some s =>
    unfold World.cell? at h
    dsimp only at h
    split at h <;> simp at h
theorem rises_pairwise {xs : List Int} (h : rises xs) : xs.Pairwise (· < ·) := by
  induction xs with
  | nil => exact .nil
  | cons x t ih =>
    have ht : rises t := fun i a b ha hb => h (i + 1) a b ha hb
    have hp := ih ht
    refine List.pairwise_cons.2 ⟨?_, hp⟩
    cases t with
    | nil => intro y hy; cases hy
    | cons y s =>
      have h0 := h 0 x y rfl rfl
      intro z hz
      rcases List.mem_cons.1 hz with rfl | hz
      · exact h0
      · have := (List.pairwise_cons.1 hp).1 z hz; omega

set_option maxHeartbeats 4000000 in
theorem hasE_any (v : Value) (xs : List Int) (x : Int) (w : World) (h : Row w 1 (rI .i64) v xs) (hs : xs.Pairwise (· < ·)) (hn : xs.length ≤ 10000) :
    Calls Tryz.prog 60 #[v, .int .i64 x] w fun e w' => e = .returned (.bool (dec (x ∈ xs))) ∧ Below w.heap.size w w' := by
  obtain ⟨o, n, c, rfl, hl, -, -, R⟩ := h.open
  have C : Calls Tryz.prog 105 #[.slice o n c, .int .i64 x] w fun e w' => (∃ i, e = .returned (.tuple #[.int .i64 i, .bool (dec (x ∈ xs))])) ∧ Below w.heap.size w w' := by
    by_cases h0 : n = 0
    · subst h0
      obtain rfl := List.eq_nil_of_length_eq_zero hl
      rw [dec_f (show ¬ x ∈ ([] : List Int) by simp)]
      clear h R hl hs hn
      go_enter Tryz.func105, Tryz.ntmps105
      go_wp2_with fail
      go_loopw [7, 8] (fun a b wr => a = .int .i64 0 ∧ b = .int .i64 0 ∧ wr = w) (fun _ _ _ => 0)
      case atStart => exact ⟨rfl, rfl, rfl⟩
      case round =>
        obtain ⟨rfl, rfl, rfl⟩ := hrel
        go_wp2_with fail
        go_ret2
        exact ⟨⟨_, rfl⟩, Below.refl _ _⟩
    · obtain ⟨y, a, hy, rfl, _, e0⟩ := R.intAt (Below.refl _ _) 0 (by omega)
      have ha : a = ⟨a.block, a.off, none⟩ := spot_none (w := w) (v := .int .i64 y) (by have := e0; rwa [show a.add 0 = a by simp [Addr.add]] at this)
      have hc : ∀ j, j < xs.length → w.cell? ⟨a.block, a.off + j, none⟩ = some (.int .i64 (xs.getD j 0)) := fun j hj => by
        obtain ⟨z, a2, hz, ha2, _, ez⟩ := R.intAt (Below.refl _ _) j (by omega)
        cases ha2
        rw [List.getD_eq_getElem?_getD, hz]
        rw [ha] at ez
        rw [show (⟨a.block, a.off, none⟩ : Addr).add j = ⟨a.block, a.off + j, none⟩ from addr_add_at _ _ _] at ez
        exact ez
      have hh := AnyG.slices_BinarySearch_int Tryz.laySearch64 a.block a.off n c xs x w (by omega) (by omega) hc (by
        rw [List.take_of_length_le (by omega)]
        exact hs.imp fun h => Int.le_of_lt h)
      change Calls Tryz.prog 105 _ _ _ at hh
      rw [← ha] at hh
      refine hh.mono ?_
      rintro e w' ⟨rfl, q, rfl⟩
      refine ⟨⟨_, by
        rw [List.take_of_length_le (by omega)]
        congr 4
        by_cases hm : x ∈ xs
        · rw [dec_t hm]; simp [hm]
        · rw [dec_f hm]; simp [hm]⟩, below_drewN (Below.refl _ _) q⟩
  have CC := Lib.hid C
  clear C h R hl hs hn
  go_enter Tryz.func60, Tryz.ntmps60
  go_wp2_with fail
  (with_reducible refine CC.out.mono ?_)
  rintro e w' ⟨⟨i, rfl⟩, hb⟩
  have HB := Lib.hid hb
  clear hb
  go_wp2_with fail
  go_ret
  exact ⟨rfl, HB.out⟩
end Go.Proofs.YtechgcjdigpglaaGreat
