/- slices.SortFunc at spans. -/
import Derived.Test.YtcleicjgeflbnaaGreatSH2
import Derived.Test.YtcleicjgeflbnaaGreatQ11
import Derived.Shelf.SlSortCmp.NoneTotal
namespace Go.Proofs.YtcleicjgeflbnaaGreat
open Go.RowKit Go.ChangeShapes Go.WideShapes Go.Deep Go.Sort
set_option linter.all false

/-- The order of spans. -/
def spLe (a b : Int × Int) : Prop := a.1 < b.1 ∨ a.1 = b.1 ∧ a.2 ≤ b.2
theorem spLt_iff (x y : Int × Int) : ltOf spCmp x y = true ↔ x.1 < y.1 ∨ x.1 = y.1 ∧ x.2 < y.2 := by
  unfold ltOf
  rw [decide_eq_true_eq]
  unfold spCmp cmpV
  split <;> split <;> (try split) <;> (try split) <;> (try split) <;> omega
theorem spLt_not (x y : Int × Int) : ltOf spCmp x y = false ↔ spLe y x := by
  rw [← Bool.not_eq_true, spLt_iff]; unfold spLe; omega
theorem spSWO : SWO (ltOf spCmp) where
  irrefl x := by rw [spLt_not]; unfold spLe; omega
  trans x y z h1 h2 := by rw [spLt_iff] at *; omega
  ntrans x y z h1 h2 := by rw [spLt_not] at *; unfold spLe at *; omega

theorem spC_at (L : List (Int × Int)) (j : Nat) (hj : j < L.length * 2) : (spC L)[j]? = some (flatK encSp 2 L.toArray)[j]! := by
  have hi : j / 2 < L.length := by omega
  have h1 := flat_at encSp 2 L (fun _ _ => rfl) (j / 2) L[j / 2] (List.getElem?_eq_getElem hi) (j % 2) (by omega)
  rw [show j / 2 * 2 + j % 2 = j by omega] at h1
  unfold spC
  rw [h1, get_flatK encSp 2 L.toArray j (by simpa using hj), getElem!_pos L.toArray (j / 2) (by simpa using hi)]
  simp only [List.getElem_toArray]
  have h2 : j % 2 < (encSp L[j / 2]).length := by show j % 2 < 2; omega
  rw [List.getElem?_eq_getElem h2, getElem!_pos (encSp L[j / 2]) (j % 2) h2]
theorem spC_len (L : List (Int × Int)) : (spC L).length = L.length * 2 := by
  induction L with
  | nil => rfl
  | cons x t ih => show (encSp x ++ spC t).length = _; rw [List.length_append, ih]; show 2 + _ = (t.length + 1) * 2; omega

theorem sortSp_any {w0 w : World} {B : Nat} {v : Value} {L : List (Int × Int)} (ho : w.ownsRow B 34 2 v L.length (spC L)) (hb : Below B w0 w) (hB : B ≤ w.heap.size) (hn : L.length ≤ 1000000) :
    Calls Tryz.prog 32 #[v, .func (.func 33) #[] #[]] w fun e w' => e = .returned (.tuple #[]) ∧ ∃ L' : List (Int × Int), L'.Perm L ∧ L'.Pairwise spLe ∧ w'.ownsRow B 34 2 v L'.length (spC L') ∧ Below B w0 w' := by
  obtain ⟨hl, ⟨rfl, h0⟩ | ⟨g, cap, cur, rfl, hg, hgs, hnc, hcm, hcs, htk⟩⟩ := ho
  · obtain rfl := List.eq_nil_of_length_eq_zero h0
    have h := AnyF.slices_SortFunc_none Tryz.laySortSp none 0 (.func (.func 33) #[] #[]) w
    change Calls Tryz.prog 32 _ _ _ at h
    refine h.mono ?_
    rintro e w' ⟨rfl, rfl⟩
    exact ⟨rfl, [], .nil, .nil, World.ownsRow_nil _ _ _ _, hb⟩
  · have hlt : g < w.heap.size := (Array.getElem?_eq_some_iff.1 hgs).1
    have hcj : ∀ j, j < L.length * 2 → cur[j]? = some (flatK encSp 2 L.toArray)[j]! := fun j hj => by
      have h1 : (cur.toList.take (L.length * 2))[j]? = (spC L)[j]? := by rw [htk]
      rw [List.getElem?_take, if_pos hj, Array.getElem?_toList, spC_at L j hj] at h1
      exact h1
    have hH : HoldsK encSp 2 w g 0 L.toArray := fun j hj => by
      have hj2 : j < L.length * 2 := by simpa using hj
      refine ⟨?_, by simp [World.frozen?, hgs]⟩
      simp only [World.cell?, hgs, Nat.zero_add]
      simp only [Option.isSome_none, Bool.false_eq_true, if_false]
      exact hcj j hj2
    have h := AnyQ.slices_SortFunc Tryz.laySortSp 2 Tryz.isAgg34 Tryz.sizeOf34 encSp (fun _ => rfl) (fun x v hv => by simp [encSp] at hv; rcases hv with rfl | rfl <;> rfl) spCmp spSWO 33 #[] g 0 cap L.toArray w
      (enters_of Tryz.func33 (by kernel_rfl) rfl) (fun m os dk _ x y => less_any x y _) hH hlt (by simp; omega)
    change Calls Tryz.prog 32 _ _ _ at h
    rw [show L.toArray.size = L.length by simp] at h
    refine h.mono ?_
    rintro e w' ⟨rfl, d', n, os, hp, hs, rfl⟩
    obtain ⟨p1, -, p3⟩ := hp
    have p1' : d'.size = L.length := by simpa using p1
    have hp : d'.toList.Perm L := by
      rw [show d'.extract 0 L.length = d' by rw [← p1']; simp, show L.toArray.extract 0 L.length = L.toArray by simp] at p3
      simpa using p3
    have hdl : d'.toList.length = L.length := by simpa using p1'
    refine ⟨rfl, d'.toList, hp, ?_, ?_, ?_⟩
    · rw [List.pairwise_iff_getElem]
      intro i j hi hj hij
      have hj' : j < d'.size := by simpa using hj
      have := hs i j (Nat.zero_le _) hij (by omega)
      rw [getElem!_pos d' j hj', getElem!_pos d' i (by omega)] at this
      rw [spLt_not] at this
      simpa using this
    · rw [hdl]
      refine own_laterI (w := putRowK encSp 2 (Sort.ahead w n) g 0 d') ?_ (below_grow0 _ _)
      refine ⟨by rw [spC_len, hdl], .inr ⟨g, cap, putCells id 0 (flatK encSp 2 d') cur, rfl, hg, ?_, hnc, hcm, by simpa [putCells] using hcs, ?_⟩⟩
      · simp [putRowK, putRow, mapBlock, Sort.ahead, Array.getElem?_modify, hgs, onCells]
      · apply List.ext_getElem?
        intro j
        rw [List.getElem?_take, Array.getElem?_toList]
        by_cases hj : j < L.length * 2
        · rw [if_pos hj]
          have hjc : j < cur.size := by have := Nat.mul_le_mul_right 2 hnc; omega
          have hd2 : spC d'.toList = spC d'.toList := rfl
          rw [spC_at d'.toList j (by omega)]
          simp only [putCells, Array.getElem?_mapIdx, Array.getElem?_eq_getElem hjc, Option.map_some]
          rw [if_pos (by rw [size_flatK]; omega)]
          simp
        · rw [if_neg hj, List.getElem?_eq_none (by rw [spC_len]; omega)]
    · refine (Lib.below_putRow (enc := id) (q := n) (d := flatK encSp 2 d') hb hg).trans ((below_grow0 _ _).mono ?_)
      simp [putRowK, putRow, mapBlock, Sort.ahead]; omega
end Go.Proofs.YtcleicjgeflbnaaGreat
