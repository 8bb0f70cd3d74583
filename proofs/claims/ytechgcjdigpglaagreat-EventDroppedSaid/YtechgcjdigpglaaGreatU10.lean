/- ref11.put: a span among others. Conditions: the row is one's own, and is not nil. -/
import Derived.Test.YtechgcjdigpglaaGreatP7
import Derived.Test.YtechgcjdigpglaaGreatAP
import Derived.Deep.DeepCutAuto
namespace Go.Proofs.YtechgcjdigpglaaGreat
open Go.RowKit Go.ChangeShapes Go.WideShapes Go.Deep
set_option linter.all false

theorem spLe_trans {a b c : Int × Int} (h1 : spLe a b) (h2 : spLe b c) : spLe a c := by unfold spLe at *; omega
theorem spLe_not {a b : Int × Int} (h : ¬ spLe a b) : spLe b a := by unfold spLe at *; omega
theorem put_perm (L : List (Int × Int)) (s : Int × Int) (k : Nat) : (L.take k ++ s :: L.drop k).Perm (s :: L) := by
  have := (List.perm_middle (a := s) (l₁ := L.take k) (l₂ := L.drop k))
  rw [List.take_append_drop] at this
  exact this
theorem put_sorted {L : List (Int × Int)} {s : Int × Int} {k : Nat} (hs : L.Pairwise spLe) (h1 : k = 0 ∨ ∃ x, L[k - 1]? = some x ∧ spLe x s) (h2 : ∀ i x, k ≤ i → L[i]? = some x → ¬ spLe x s) : (L.take k ++ s :: L.drop k).Pairwise spLe := by
  have hlo : ∀ x ∈ L.take k, spLe x s := fun x hx => by
    obtain ⟨i, hi, rfl⟩ := List.getElem_of_mem hx
    rw [List.length_take] at hi
    rw [List.getElem_take]
    rcases h1 with h1 | ⟨y, h3, h4⟩
    · omega
    · obtain ⟨h5, rfl⟩ := List.getElem?_eq_some_iff.1 h3
      by_cases e : i = k - 1
      · subst e; exact h4
      · exact spLe_trans (List.pairwise_iff_getElem.1 hs i (k - 1) (by omega) h5 (by omega)) h4
  have hhi : ∀ y ∈ L.drop k, spLe s y := fun y hy => by
    obtain ⟨i, hi, rfl⟩ := List.getElem_of_mem hy
    rw [List.length_drop] at hi
    refine spLe_not (h2 (k + i) _ (by omega) ?_)
    rw [List.getElem_drop]
    exact List.getElem?_eq_getElem _
  rw [List.pairwise_append]
  refine ⟨hs.sublist (List.take_sublist ..), List.pairwise_cons.2 ⟨hhi, hs.sublist (List.drop_sublist ..)⟩, fun x hx y hy => ?_⟩
  rcases List.mem_cons.1 hy with rfl | hy
  · exact hlo x hx
  · exact spLe_trans (hlo x hx) (hhi y hy)
theorem bool_dec {b : Bool} {p : Prop} (h : b = true ↔ p) : b = dec p := by
  by_cases hp : p
  · rw [dec_t hp, h.2 hp]
  · rw [dec_f hp, Bool.eq_false_iff.2 fun hb => hp (h.1 hb)]
theorem empty_ownz (W : World) (B : Nat) (e : TypeId) (z : Nat) (hB : B ≤ W.heap.size) : (W.alloc (.cells #[] e)).ownsRow B e z (.slice (some ⟨W.heap.size, 0, none⟩) 0 0) 0 [] :=
  ⟨by simp, .inr ⟨W.heap.size, 0, #[], rfl, hB, heap_alloc_new W _, Nat.le_refl _, by unfold maxLen; omega, by simp, by simp⟩⟩
theorem spC_one {L : List (Int × Int)} : ∀ u ∈ spC L, u.oneCell' = true := by
  intro u hu
  obtain ⟨x, -, hx⟩ := List.mem_flatMap.1 hu
  simp only [encSp, List.mem_cons, List.not_mem_nil, or_false] at hx
  rcases hx with rfl | rfl <;> rfl
/-- Does a span go on ahead of one. -/
def movesP (L : List (Int × Int)) (s : Int × Int) (k : Nat) : Prop := 0 < k ∧ ∃ x, L[k - 1]? = some x ∧ ¬ spLe x s
theorem spC_take (L : List (Int × Int)) (k : Nat) : spC (L.take k) = (spC L).take (k * 2) := by
  unfold spC
  induction L generalizing k with
  | nil => simp
  | cons x L ih =>
    cases k with
    | zero => simp
    | succ k => rw [List.take_succ_cons, List.flatMap_cons, List.flatMap_cons, ih, show (k + 1) * 2 = k * 2 + 2 by omega]; rfl
theorem spC_drop (L : List (Int × Int)) (k : Nat) : spC (L.drop k) = (spC L).drop (k * 2) := by
  unfold spC
  induction L generalizing k with
  | nil => simp
  | cons x L ih =>
    cases k with
    | zero => simp
    | succ k => rw [List.drop_succ_cons, List.flatMap_cons, ih, show (k + 1) * 2 = k * 2 + 2 by omega]; rfl
theorem spC_pre {L : List (Int × Int)} {k j : Nat} {u : Value} (h : (spC (L.take k))[j]? = some u) : (spC L)[j]? = some u := by
  rw [spC_take, List.getElem?_take] at h
  split at h
  · exact h
  · cases h
theorem spC_suf {L : List (Int × Int)} {k j : Nat} {u : Value} (h : (spC (L.drop k))[j]? = some u) : (spC L)[k * 2 + j]? = some u := by
  rw [spC_drop, List.getElem?_drop] at h; exact h

set_option maxHeartbeats 16000000 in
set_option maxRecDepth 100000 in
theorem put_any {B : Nat} (v : Value) (L : List (Int × Int)) (s0 s1 : Int) (w : World) (ho : w.ownsRow B 34 2 v L.length (spC L)) (hv : v ≠ .slice none 0 0) (hs : L.Pairwise spLe) (hn : L.length ≤ 1000000) :
    Calls Tryz.prog 104 #[v, .agg #[.int .i64 s0, .int .i64 s1]] w fun e w' => ∃ v' M, e = .returned v' ∧ M.Perm ((s0, s1) :: L) ∧ M.Pairwise spLe ∧ v' ≠ .slice none 0 0 ∧ w'.ownsRow w.heap.size 34 2 v' M.length (spC M) ∧ Below w.heap.size w w' := by
  obtain ⟨i0, hi, hz0, hz1, hz2⟩ := info_parts infoSpan
  have RD := own_sp ho
  have HO := Lib.hid ho
  have HSO := Lib.hid hs
  obtain ⟨hxl, hx | ⟨g, c, cur, rfl, hB, hg, hnc, hcm, hcs, hct⟩⟩ := ho
  · exact absurd hx.1 hv
  obtain ⟨A, HA⟩ : ∃ A : Addr, Hid (A = ⟨g, 0, none⟩) := ⟨_, Lib.hid rfl⟩
  have hgl : g < w.heap.size := (Array.getElem?_eq_some_iff.1 hg).1
  rw [← HA.out] at RD
  have HE := Lib.hid (show ∀ W, Below w.heap.size w W → ∀ i, i < L.length → ∃ x, L[i]? = some x ∧ W.cell? (A.add (i * 2)) = some (.int .i64 x.1) ∧ W.cell? ⟨(A.add (i * 2)).block, (A.add (i * 2)).off + 1, none⟩ = some (.int .i64 x.2) from fun W hb i hi => by
    obtain ⟨x, a, cs, q1, q2, q3, q4, q5, q6⟩ := RD.elem hb i hi
    cases q2
    obtain rfl := q4
    exact ⟨x, q1, q5 (by decide), q6 1 (by decide) (by decide)⟩)
  have HC := Lib.hid (show ∀ W, Below w.heap.size w W → ∀ j u, (spC L)[j]? = some u → W.cell? (A.add j) = some u from fun W hb j u hj => by
    rw [HA.out, show Addr.add ⟨g, 0, none⟩ j = ⟨g, j, none⟩ by (simp [Addr.add]; intro h; exact h.symm), cell_of_row _ _ _ _ _ _ ((hb.block g hgl).trans hg)]
    rw [← hct, List.getElem?_take] at hj
    split at hj
    · simpa using hj
    · cases hj)
  have HGL := Lib.hid hgl
  have HBX := Lib.hid (BxM.new w #[.int .i64 s0, .int .i64 s1] 34)
  have HB := Lib.hid (belowA (.cells #[.int .i64 s0, .int .i64 s1] 34) (Below.refl w.heap.size w))
  rw [← HA.out]
  obtain ⟨n, hnl⟩ : ∃ n, n = L.length := ⟨_, rfl⟩
  rw [← hnl] at hnc hn ⊢
  have HNL := Lib.hid hnl
  unfold maxLen at hcm
  clear hg hcs hct hs hxl RD hnl hgl hv hB
  go_enter Tryz.func104, Tryz.ntmps104
  go_wp2_with fail
  go_loopw [5] (fun b wr => ∃ k : Nat, k ≤ n ∧ b = .int .i64 (k : Nat) ∧ Hid (∃ q, wr = (w.alloc (.cells #[.int .i64 s0, .int .i64 s1] 34)).drewN q) ∧ Hid (∀ i x, k ≤ i → L[i]? = some x → ¬ spLe x (s0, s1))) (fun b _ => (intOf b).toNat)
  case atStart => exact ⟨n, Nat.le_refl _, rfl, Lib.hid ⟨0, rfl⟩, fun i x hi hx => absurd (List.getElem?_eq_some_iff.1 hx).1 (by have := HNL.out; omega)⟩
  case round =>
    obtain ⟨k, hk, rfl, HQ, HI⟩ := hrel
    obtain ⟨wl, rfl⟩ : ∃ x, x = wr := ⟨_, rfl⟩
    have HBL := Lib.hid (show Below w.heap.size w wl from by obtain ⟨q, rfl⟩ := HQ.out; exact below_drewN HB.out q)
    have HQN := Lib.hid (show ∀ m, ∃ q, wl.drewN m = (w.alloc (.cells #[.int .i64 s0, .int .i64 s1] 34)).drewN q from fun m => by obtain ⟨q, rfl⟩ := HQ.out; exact ⟨_, World.drewN_drewN ..⟩)
    have HXL := Lib.hid (show BxM w.heap.size #[.int .i64 s0, .int .i64 s1] 34 wl from by obtain ⟨q, rfl⟩ := HQ.out; exact HBX.out.below (below_drewN (Below.refl _ _) q))
    have kB := HXL.out.cell
    go_upto_region 2 with fail
    go_cut [43] (fun v W => (∃ b, v = .bool b ∧ Hid (b = dec (movesP L (s0, s1) k))) ∧ ∃ m, W = wl.drewN m)
    case first =>
      by_cases hk0 : k = 0
      · have HN := Lib.hid (dec_f (show ¬ movesP L (s0, s1) k from fun h => by have := h.1; omega)).symm
        have d4 : ¬ (0 : Int) < (k : Int) := by omega
        have d5 : decide ((0 : Int) < (k : Int)) = false := decide_eq_false d4
        have d6 : decide (0 < k) = false := decide_eq_false (by omega)
        have d7 : ¬ 0 < k := by omega
        clear hk0
        go_quiet (fail)
        go_wp2_with fail
        go_meet
        exact ⟨⟨_, rfl, HN⟩, _, rfl⟩
      · have hk1 : 1 ≤ k := by omega
        have hk2 : (0 : Int) < (k : Int) := by omega
        obtain ⟨y, hy, ha0, ha1⟩ := HE.out wl HBL.out (k - 1) (by have := HNL.out; omega)
        have HY := Lib.hid hy
        obtain ⟨y0, y1⟩ := y
        simp only at ha0 ha1
        have hk3 : (0 : Int) ≤ (k : Int) - 1 := by omega
        have hk4 : (k : Int) - 1 < (n : Int) := by omega
        have hk6 : (1 : Int) ≤ (k : Int) := by omega
        have hk5 : ((k : Int) - 1).toNat = k - 1 := by omega
        have hw5 : IntKind.i64.wrap ((k : Int) - 1) = (k : Int) - 1 := by rw [IntKind.wrap_i64]; omega
        have d6 : decide (0 < k) = true := decide_eq_true (by omega)
        have HM := Lib.hid (show movesP L (s0, s1) k ↔ s0 < y0 ∨ y0 = s0 ∧ s1 < y1 from ⟨fun ⟨_, x, hx, hn⟩ => by rw [HY.out] at hx; cases hx; unfold spLe at hn; simp only at hn; omega, fun h => ⟨hk1, _, HY.out, fun hl => by unfold spLe at hl; simp only at hl; omega⟩⟩)
        clear hy hk0
        refine wp_region_quiet_lit (by kernel_rfl) (by kernel_rfl) ?_
        repeat (any_goals (first | go_big_quiet_step (fail) | quiet_step (fail) | (refine wpQuiet_step (fun K hK => ?_); go_simp; split <;> (refine hK _ ?_; clear hK K))))
        all_goals (refine wpQuiet_nil ?_; intro _ hw'; obtain ⟨nq, hw''⟩ := hw'; subst hw'')
        all_goals go_wp2_with fail
        all_goals go_meet
        all_goals refine ⟨⟨_, rfl, Lib.hid (bool_dec ?_)⟩, _, rfl⟩
        all_goals rw [HM.out]
        all_goals clear HM HE HC HQN HQ HBL HXL HY HI HB HBX HGL HSO HO HNL HA
        all_goals (simp only [decide_eq_true_eq, decide_eq_false_iff_not, beq_iff_eq, Int.not_lt, Int.not_le, true_iff, false_iff, Bool.false_eq_true] at *; first | omega | grind)
    case rest =>
    obtain ⟨⟨b, rfl, HBv⟩, m, rfl⟩ := hcut
    cases b with
    | true =>
      have HMV := Lib.hid (dec_iff.1 HBv.out.symm)
      have hk1 : 1 ≤ k := HMV.out.1
      go_wp2_with fail
      go_roundw
      case measure => simp [intOf]; omega
      case rel => exact ⟨k - 1, by omega, by (congr 1; omega), Lib.hid (HQN.out m), fun i x hi hx => by
        by_cases e : i = k - 1
        · obtain ⟨_, y, hy, hn⟩ := HMV.out
          rw [e, hy] at hx; cases hx; exact hn
        · exact HI.out i x (by omega) hx⟩
    | false =>
      have HFV := Lib.hid (show ¬ movesP L (s0, s1) k from fun h => by have := HBv.out; rw [dec_t h] at this; cases this)
      have hnl := HNL.out
      have HSRT := Lib.hid (put_sorted HSO.out (s := (s0, s1)) (k := k) (by
        by_cases h : k = 0
        · exact .inl h
        · obtain ⟨y, hy, -, -⟩ := HE.out wl HBL.out (k - 1) (by omega)
          exact .inr ⟨y, hy, Classical.byContradiction fun hn => HFV.out ⟨by omega, y, hy, hn⟩⟩) HI.out)
      have HB0 := Lib.hid (show Below w.heap.size w ((wl.drewN m).alloc (.cells #[] 34)) from (below_drewN HBL.out m).alloc (below_drewN HBL.out m).size _)
      have HX0 := Lib.hid (show BxM w.heap.size #[.int .i64 s0, .int .i64 s1] 34 ((wl.drewN m).alloc (.cells #[] 34)) from (HXL.out.below (below_drewN (Below.refl _ _) m)).alloc _)
      have HS0 := Lib.hid (show w.heap.size < wl.heap.size from HXL.out.lt)
      have HO0 := Lib.hid (show ((wl.drewN m).alloc (.cells #[] 34)).ownsRow (w.heap.size + 1) 34 2 (.slice (some ⟨wl.heap.size, 0, none⟩) 0 0) 0 [] from empty_ownz (wl.drewN m) (w.heap.size + 1) 34 2 HS0.out)
      have HC0 := Lib.hid (fun j u (h : (spC (L.take k))[j]? = some u) => HC.out _ HB0.out j u (spC_pre h))
      have HLT := Lib.hid (show (spC (L.take k)).length = k * 2 by rw [spC_len, List.length_take]; omega)
      have HZ0 := Lib.hid (show w.heap.size + 1 ≤ ((wl.drewN m).alloc (.cells #[] 34)).heap.size by have := HX0.out.lt; omega)
      clear hnl kB
      go_wp2_with (at_builtin; refine wpList_append_own ((wl.drewN m).alloc (.cells #[] 34)) rfl (.tmp 47) (.tmp 50) 38 rfl (w.heap.size + 1) 34 i0 (.agg #[.int .i64 0, .int .i64 0]) 2 16 underSpans hi hz0 hz1 hz2 rfl (by decide) (.slice (some ⟨wl.heap.size, 0, none⟩) 0 0) 0 [] rfl HO0.out A k c (spC (L.take k)) rfl HLT.out HC0.out spC_one (by unfold maxLen; omega) (by omega) HZ0.out ?_)
      intro v1 w1 hown1 hgrow1 hnil1
      have HB1 := Lib.hid (HB0.out.grown hgrow1 HB0.out.size (fun j hj => by have := (HO0.out.lt j hj).1; omega))
      have HX1 := Lib.hid (HX0.out.grown hgrow1 (by have := HS0.out; intro e; simp [Value.ownBlock] at e; omega))
      have HX2 := Lib.hid (HX1.out.alloc (.cells #[.int .i64 s0, .int .i64 s1] 34))
      have HB2 := Lib.hid (show Below w.heap.size w (w1.alloc (.cells #[.int .i64 s0, .int .i64 s1] 34)) from HB1.out.alloc HB1.out.size _)
      have HO2 := Lib.hid (show (w1.alloc (.cells #[.int .i64 s0, .int .i64 s1] 34)).ownsRow (w.heap.size + 1) 34 2 v1 k (spC (L.take k)) by
        have h := hown1.alloc (.cells #[.int .i64 s0, .int .i64 s1] 34)
        simpa only [Nat.zero_add, List.nil_append] using h)
      have HC2 := Lib.hid (fun j u (h : [Value.int .i64 s0, .int .i64 s1][j]? = some u) => show World.cell? (w1.alloc (.cells #[.int .i64 s0, .int .i64 s1] 34)) ((⟨w1.heap.size, 0, none⟩ : Addr).add j) = some u by
        rw [show (⟨w1.heap.size, 0, none⟩ : Addr).add j = ⟨w1.heap.size, j, none⟩ by (simp [Addr.add]; intro h; exact h.symm), cell_of_row _ _ _ _ _ _ (heap_alloc_new _ _)]
        simpa using h)
      have HZ2 := Lib.hid (show w.heap.size + 1 ≤ (w1.alloc (.cells #[.int .i64 s0, .int .i64 s1] 34)).heap.size by have := HX2.out.lt; omega)
      have kB1 := HX1.out.cell
      clear hown1 hgrow1 hnil1 HO0 HB0 HX0 HC0 HZ0
      go_wp2_with (at_builtin; refine wpList_append_own (w1.alloc (.cells #[.int .i64 s0, .int .i64 s1] 34)) rfl (.tmp 52) (.tmp 54) 38 rfl (w.heap.size + 1) 34 i0 (.agg #[.int .i64 0, .int .i64 0]) 2 16 underSpans hi hz0 hz1 hz2 rfl (by decide) v1 k (spC (L.take k)) rfl HO2.out ⟨w1.heap.size, 0, none⟩ 1 1 [.int .i64 s0, .int .i64 s1] rfl rfl HC2.out (by intro u hu; simp at hu; rcases hu with rfl | rfl <;> rfl) (by unfold maxLen; omega) (by omega) HZ2.out ?_)
      intro v2 w2 hown2 hgrow2 hnil2
      have HB3 := Lib.hid (HB2.out.grown hgrow2 HB2.out.size (fun j hj => by have := (HO2.out.lt j hj).1; omega))
      have HN2 := Lib.hid (show v2 ≠ .slice none 0 0 from fun e => by first | exact hnil2 e | (have := (hnil2.1 e).2; omega))
      have HO3 := Lib.hid (show w2.ownsRow (w.heap.size + 1) 34 2 v2 (k + 1) (spC (L.take k) ++ [.int .i64 s0, .int .i64 s1]) from hown2)
      have HLD := Lib.hid (show (spC (L.drop k)).length = (n - k) * 2 by rw [spC_len, List.length_drop, HNL.out])
      have HZ3 := Lib.hid (show w.heap.size + 1 ≤ w2.heap.size by have := hgrow2.size; have := HZ2.out; omega)
      have HEQ := Lib.hid (show ∀ (W : World) (v : Value), W.ownsRow (w.heap.size + 1) 34 2 v (k + 1 + (n - k)) (spC (L.take k) ++ [.int .i64 s0, .int .i64 s1] ++ spC (L.drop k)) → W.ownsRow w.heap.size 34 2 v (L.take k ++ (s0, s1) :: L.drop k).length (spC (L.take k ++ (s0, s1) :: L.drop k)) from fun W v h => by
        have h2 := own_base h (show w.heap.size ≤ w.heap.size + 1 by omega)
        rw [show (L.take k ++ (s0, s1) :: L.drop k).length = k + 1 + (n - k) by rw [List.length_append, List.length_cons, List.length_take, List.length_drop, ← HNL.out]; omega]
        rw [show spC (L.take k ++ (s0, s1) :: L.drop k) = spC (L.take k) ++ [.int .i64 s0, .int .i64 s1] ++ spC (L.drop k) by rw [spC_append, List.append_assoc]; rfl]
        exact h2)
      clear hown2 hgrow2 hnil2 HO2 HB2 HX2 HC2 HZ2 HX1 HB1 kB1
      by_cases hkc : k = c
      · subst hkc
        obtain rfl : n = k := by omega
        have HD0 := Lib.hid (show spC (L.drop n) = [] by rw [List.drop_of_length_le (by rw [← HNL.out]; exact Nat.le_refl _)]; rfl)
        go_wp2_with (at_builtin; refine wpList_append_own w2 rfl (.tmp 56) (.tmp 59) 38 rfl (w.heap.size + 1) 34 i0 (.agg #[.int .i64 0, .int .i64 0]) 2 16 underSpans hi hz0 hz1 hz2 rfl (by decide) v2 (n + 1) _ rfl HO3.out A 0 0 [] rfl rfl (fun j u h => by cases h) (fun u h => by cases h) (by unfold maxLen; omega) (by omega) HZ3.out ?_)
        intro v3 w3 hown3 hgrow3 hnil3
        have HB4 := Lib.hid (HB3.out.grown hgrow3 HB3.out.size (fun j hj => by have := (HO3.out.lt j hj).1; omega))
        have HN3 := Lib.hid (show v3 ≠ .slice none 0 0 from fun e => by first | exact hnil3 e | exact HN2.out (hnil3.1 e).1 | (have := (hnil3.1 e).2; omega) | exact HN2.out (hnil3.1 e))
        have HO4 := Lib.hid (show w3.ownsRow (w.heap.size + 1) 34 2 v3 (n + 1 + (n - n)) (spC (L.take n) ++ [.int .i64 s0, .int .i64 s1] ++ spC (L.drop n)) by rw [HD0.out, Nat.sub_self]; simpa only [Nat.add_zero, List.append_nil] using hown3)
        clear hown3 hgrow3 hnil3
        go_wp2_with fail
        go_ret
        exact ⟨v3, L.take n ++ (s0, s1) :: L.drop n, rfl, put_perm .., HSRT.out, HN3.out, HEQ.out _ _ HO4.out, HB4.out⟩
      · have HCV := Lib.hid (fun j u (h : (spC (L.drop k))[j]? = some u) => show World.cell? w2 ((A.add (k * 2)).add j) = some u by
          rw [show (A.add (k * 2)).add j = A.add (k * 2 + j) from Addr.add_add A _ _]
          exact HC.out _ HB3.out _ _ (spC_suf h))
        go_wp2_with (at_builtin; refine wpList_append_own w2 rfl (.tmp 56) (.tmp 59) 38 rfl (w.heap.size + 1) 34 i0 (.agg #[.int .i64 0, .int .i64 0]) 2 16 underSpans hi hz0 hz1 hz2 rfl (by decide) v2 (k + 1) _ rfl HO3.out (A.add (k * 2)) (n - k) (c - k) (spC (L.drop k)) rfl HLD.out HCV.out spC_one (by unfold maxLen; omega) (by omega) HZ3.out ?_)
        intro v3 w3 hown3 hgrow3 hnil3
        have HB4 := Lib.hid (HB3.out.grown hgrow3 HB3.out.size (fun j hj => by have := (HO3.out.lt j hj).1; omega))
        have HN3 := Lib.hid (show v3 ≠ .slice none 0 0 from fun e => by first | exact hnil3 e | exact HN2.out (hnil3.1 e).1 | (have := (hnil3.1 e).2; omega) | exact HN2.out (hnil3.1 e))
        have HO4 := Lib.hid (show w3.ownsRow (w.heap.size + 1) 34 2 v3 (k + 1 + (n - k)) (spC (L.take k) ++ [.int .i64 s0, .int .i64 s1] ++ spC (L.drop k)) by simpa only [List.append_assoc, List.cons_append, List.nil_append] using hown3)
        clear hown3 hgrow3 hnil3
        go_wp2_with fail
        go_ret
        exact ⟨v3, L.take k ++ (s0, s1) :: L.drop k, rfl, put_perm .., HSRT.out, HN3.out, HEQ.out _ _ HO4.out, HB4.out⟩
end Go.Proofs.YtechgcjdigpglaaGreat
