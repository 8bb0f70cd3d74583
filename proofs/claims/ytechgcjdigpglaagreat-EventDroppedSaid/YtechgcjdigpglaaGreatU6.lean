/- ref10: kept. Conditions: the rule reads, its rows are not too long. -/
import Derived.Test.YtechgcjdigpglaaGreatU2n
import Derived.Test.YtechgcjdigpglaaGreatK10
import Derived.Test.YtechgcjdigpglaaGreatQ2
namespace Go.Proofs.YtechgcjdigpglaaGreat
open Go.RowKit Go.ChangeShapes Go.WideShapes Go.Deep
set_option linter.all false

theorem row_wfi {w : World} {v : Value} {xs : List Int} (h : Row w 1 (rI .i64) v xs) : ∀ x ∈ xs, wfi .i64 x := by
  intro x hx
  obtain ⟨i, hi⟩ := List.getElem?_of_mem hx
  obtain ⟨o, n, c, rfl, _, _, _, _, h5⟩ := h
  obtain ⟨a, cs, _, _, _, hr⟩ := h5 i x hi
  exact hr.2
theorem empty_own (W : World) (B : Nat) (e : TypeId) (hB : B ≤ W.heap.size) : (W.alloc (.cells #[] e)).ownsRow B e 1 (.slice (some ⟨W.heap.size, 0, none⟩) 0 0) 0 [] :=
  ⟨rfl, .inr ⟨W.heap.size, 0, #[], rfl, hB, heap_alloc_new W _, Nat.le_refl _, by unfold maxLen; omega, rfl, rfl⟩⟩

set_option maxHeartbeats 8000000 in
set_option maxRecDepth 100000 in
theorem refKept_any (cr : List Value) (r : RuleD) (v : Value) (xs : List Int) (w : World) (h : rRule w cr r) (hps : r.bySetPos.length ≤ 10000) (hv : Row w 1 (rI .i64) v xs) (hl : xs.length ≤ 110000) :
    Calls Tryz.prog 102 #[.agg cr.toArray, v] w fun e w' => ∃ v', e = .returned v' ∧ ((v' = v ∧ placesF r xs = xs) ∨ w'.ownsRow w.heap.size 3 1 v' (placesF r xs).length (inC (placesF r xs))) ∧ Below w.heap.size w w' := by
  obtain ⟨i0, hi, hz0, hz1, hz2⟩ := info_parts infoInt
  obtain ⟨mv, dv, yv, pv, rfl, -, -, -, -, -, hm, hd, hy, hp⟩ := h
  obtain ⟨om, nm, cm, rfl, -, -, -, -⟩ := hm.open
  obtain ⟨od, nd, cd, rfl, -, -, -, -⟩ := hd.open
  obtain ⟨oy, ny, cy, rfl, -, -, -, -⟩ := hy.open
  obtain ⟨op, np, cp, rfl, lp, -, -, RP⟩ := hp.open
  have HV := Lib.hid hv
  obtain ⟨o, n, c, rfl, hl2, -, -, R⟩ := hv.open
  have S := Lib.hid R
  have LN := Lib.hid hl2
  have hn : n ≤ 110000 := by omega
  have HW := Lib.hid (row_wfi HV.out)
  have B0 := Lib.hid (belowA (.cells #[.int .i64 r.freq, .int .i64 r.interval, .int .i64 r.count, .int .i64 r.until_, .slice om nm cm, .slice od nd cd, .slice oy ny cy, .slice op np cp, .int .i64 r.start] 28) (Below.refl w.heap.size w))
  have X0 := Lib.hid (BxM.new w #[.int .i64 r.freq, .int .i64 r.interval, .int .i64 r.count, .int .i64 r.until_, .slice om nm cm, .slice od nd cd, .slice oy ny cy, .slice op np cp, .int .i64 r.start] 28)
  have CH := Lib.hid (fun x W (hb : Below w.heap.size w W) => refHas_any _ r.bySetPos x W (RP.later' hb) (by omega))
  have HNP := Lib.hid (nil_iff lp)
  clear hm hd hy hp RP R hv hl hl2 lp hps
  by_cases h0 : np = 0
  · have d0 : ((np : Int) == 0) = true := by simp [h0]
    have d1 : (np == 0) = true := by simp [h0]
    have HP := Lib.hid (show placesF r xs = xs by unfold placesF; rw [if_pos (HNP.out.2 h0)])
    clear h0
    go_enter Tryz.func102, Tryz.ntmps102
    go_wp2_with fail
    go_ret
    exact ⟨_, rfl, .inl ⟨rfl, HP.out⟩, B0.out⟩
  · have d0 : ((np : Int) == 0) = false := by simp [h0]
    have d1 : (np == 0) = false := by simp [h0]
    have HP := Lib.hid (show placesF r xs = placeAux r.bySetPos xs.length 0 xs by unfold placesF; rw [if_neg (fun h => h0 (HNP.out.1 h))])
    have E0 := Lib.hid (empty_own (w.alloc (.cells #[.int .i64 r.freq, .int .i64 r.interval, .int .i64 r.count, .int .i64 r.until_, .slice om nm cm, .slice od nd cd, .slice oy ny cy, .slice op np cp, .int .i64 r.start] 28)) (w.heap.size + 1) 3 (by simp))
    have B1 := Lib.hid (show Below (w.heap.size + 1) (w.alloc (.cells #[.int .i64 r.freq, .int .i64 r.interval, .int .i64 r.count, .int .i64 r.until_, .slice om nm cm, .slice od nd cd, .slice oy ny cy, .slice op np cp, .int .i64 r.start] 28)) ((w.alloc (.cells #[.int .i64 r.freq, .int .i64 r.interval, .int .i64 r.count, .int .i64 r.until_, .slice om nm cm, .slice od nd cd, .slice oy ny cy, .slice op np cp, .int .i64 r.start] 28)).alloc (.cells #[] 3)) from (Below.refl _ _).alloc (by simp) _)
    rw [show (w.alloc (.cells #[.int .i64 r.freq, .int .i64 r.interval, .int .i64 r.count, .int .i64 r.until_, .slice om nm cm, .slice od nd cd, .slice oy ny cy, .slice op np cp, .int .i64 r.start] 28)).heap.size = w.heap.size + 1 by simp] at E0
    have HSZ := Lib.hid (show (w.alloc (.cells #[.int .i64 r.freq, .int .i64 r.interval, .int .i64 r.count, .int .i64 r.until_, .slice om nm cm, .slice od nd cd, .slice oy ny cy, .slice op np cp, .int .i64 r.start] 28)).heap.size = w.heap.size + 1 by simp)
    clear h0
    go_enter Tryz.func102, Tryz.ntmps102
    go_wp2_with fail
    go_loopw [5, 15] (fun v i wr => ∃ k : Nat, k ≤ n ∧ i = .int .i64 (k : Nat) ∧ Hid (wr.ownsRow (w.heap.size + 1) 3 1 v (keptTo r.bySetPos xs k).length (inC (keptTo r.bySetPos xs k))) ∧ Hid (Below (w.heap.size + 1) (w.alloc (.cells #[.int .i64 r.freq, .int .i64 r.interval, .int .i64 r.count, .int .i64 r.until_, .slice om nm cm, .slice od nd cd, .slice oy ny cy, .slice op np cp, .int .i64 r.start] 28)) wr)) (fun _ i _ => n - (intOf i).toNat)
    case atStart => exact ⟨0, Nat.zero_le _, rfl, Lib.hid (by simp only [keptTo, List.take_zero, placeAux]; exact E0.out), B1⟩
    case round =>
      obtain ⟨k, hk, rfl, HO, HBr⟩ := hrel
      obtain ⟨wl, rfl⟩ : ∃ x, x = wr := ⟨_, rfl⟩
      have HB := Lib.hid (B0.out.trans (HBr.out.mono (by omega)))
      have HX := Lib.hid (X0.out.below (by rw [HSZ.out]; exact HBr.out))
      have kA := HX.out.cell
      by_cases hlt : k < n
      · have hlt' : (k : Int) < (n : Int) := by omega
        obtain ⟨x, a1, hx, rfl, _, e0⟩ := S.out.intAt HB.out k hlt
        have HS := Lib.hid (keptTo_step (pos := r.bySetPos) hx)
        have hkl := keptTo_le r.bySetPos xs k
        have hlen : xs.length = n := LN.out
        rw [hlen] at HS hkl
        clear hx hlen
        by_cases c1 : (k : Int) + 1 ∈ r.bySetPos
        · have q1 := dec_t c1
          have HY := Lib.hid (show keptTo r.bySetPos xs (k + 1) = keptTo r.bySetPos xs k ++ [x] by rw [HS.out, if_pos (dec_t (.inl c1))])
          clear c1
          go_wp2_with (first | (go_at_call 152; ((with_reducible refine (CH.out _ _ HB.out).mono ?_)); rintro q w3 ⟨rfl, hb3⟩; obtain rfl := hb3.symm) | (at_builtin; refine wpList_append_own (wl.alloc (.cells #[.int .i64 x] 3)) rfl (.tmp 32) (.tmp 37) 25 rfl (w.heap.size + 1) 3 i0 (.int .i64 0) 1 8 underInts hi hz0 hz1 hz2 rfl (by decide) u5 (keptTo r.bySetPos xs k).length (inC (keptTo r.bySetPos xs k)) rfl (HO.out.alloc _) ⟨wl.heap.size, 0, none⟩ 1 1 [.int .i64 x] rfl rfl ?c1 ?c2 ?c3 ?c4 ?c5 ?_))
          case c1 =>
            intro j u hj
            match j, hj with
            | 0, hj => simp at hj; subst hj; simp [Addr.add]
            | (_ + 1), hj => simp at hj
          case c2 => intro u hu; simp at hu; subst hu; rfl
          case c3 => unfold maxLen; omega
          case c4 => omega
          case c5 => have := HBr.out.size; simp at this; simp; omega
          intro v' w4 hown hgrow _
          have HB4 := Lib.hid ((HBr.out.alloc (by have := HBr.out.size; simp at this; omega) (.cells #[.int .i64 x] 3)).grown hgrow (by have := HBr.out.size; simp at this; simp; omega) (fun j hj => (HO.out.lt j hj).1))
          have HO4 := Lib.hid (show w4.ownsRow (w.heap.size + 1) 3 1 v' (keptTo r.bySetPos xs (k + 1)).length (inC (keptTo r.bySetPos xs (k + 1))) by
            rw [HY.out, inC_append, List.length_append]; exact hown)
          clear hown hgrow
          go_wp2_with fail
          go_roundw
          case measure => simp [intOf]; omega
          case rel => exact ⟨k + 1, by omega, by go_num, HO4, HB4⟩
        · have q1 := dec_f c1
          by_cases c2 : (k : Int) - (n : Int) ∈ r.bySetPos
          · have q2 := dec_t c2
            have HY := Lib.hid (show keptTo r.bySetPos xs (k + 1) = keptTo r.bySetPos xs k ++ [x] by rw [HS.out, if_pos (dec_t (.inr c2))])
            clear c1 c2
            go_wp2_with (first | (go_at_call 152; ((with_reducible refine (CH.out _ _ HB.out).mono ?_)); rintro q w3 ⟨rfl, hb3⟩; obtain rfl := hb3.symm) | (at_builtin; refine wpList_append_own (wl.alloc (.cells #[.int .i64 x] 3)) rfl (.tmp 32) (.tmp 37) 25 rfl (w.heap.size + 1) 3 i0 (.int .i64 0) 1 8 underInts hi hz0 hz1 hz2 rfl (by decide) u5 (keptTo r.bySetPos xs k).length (inC (keptTo r.bySetPos xs k)) rfl (HO.out.alloc _) ⟨wl.heap.size, 0, none⟩ 1 1 [.int .i64 x] rfl rfl ?c1 ?c2 ?c3 ?c4 ?c5 ?_))
            case c1 =>
              intro j u hj
              match j, hj with
              | 0, hj => simp at hj; subst hj; simp [Addr.add]
              | (_ + 1), hj => simp at hj
            case c2 => intro u hu; simp at hu; subst hu; rfl
            case c3 => unfold maxLen; omega
            case c4 => omega
            case c5 => have := HBr.out.size; simp at this; simp; omega
            intro v' w4 hown hgrow _
            have HB4 := Lib.hid ((HBr.out.alloc (by have := HBr.out.size; simp at this; omega) (.cells #[.int .i64 x] 3)).grown hgrow (by have := HBr.out.size; simp at this; simp; omega) (fun j hj => (HO.out.lt j hj).1))
            have HO4 := Lib.hid (show w4.ownsRow (w.heap.size + 1) 3 1 v' (keptTo r.bySetPos xs (k + 1)).length (inC (keptTo r.bySetPos xs (k + 1))) by
              rw [HY.out, inC_append, List.length_append]; exact hown)
            clear hown hgrow
            go_wp2_with fail
            go_roundw
            case measure => simp [intOf]; omega
            case rel => exact ⟨k + 1, by omega, by go_num, HO4, HB4⟩
          · have q2 := dec_f c2
            have HY := Lib.hid (show keptTo r.bySetPos xs (k + 1) = keptTo r.bySetPos xs k by rw [HS.out, if_neg (by rw [dec_f (fun h => h.elim c1 c2)]; decide), List.append_nil])
            clear c1 c2
            go_wp2_with (go_at_call 152; ((with_reducible refine (CH.out _ _ HB.out).mono ?_)); rintro q w3 ⟨rfl, hb3⟩; obtain rfl := hb3.symm)
            go_roundw
            case measure => simp [intOf]; omega
            case rel => exact ⟨k + 1, by omega, by go_num, Lib.hid (by rw [HY.out]; exact HO.out), HBr⟩
      · obtain rfl : n = k := by omega
        have hall : keptTo r.bySetPos xs n = placesF r xs := by rw [keptTo_all (by rw [LN.out]; exact Nat.le_refl _), HP.out]
        have HR := Lib.hid (show wl.ownsRow w.heap.size 3 1 u5 (placesF r xs).length (inC (placesF r xs)) by rw [← hall]; exact own_base HO.out (by omega))
        clear hall
        go_wp2_with fail
        go_ret
        exact ⟨_, rfl, .inr HR.out, HB.out⟩
end Go.Proofs.YtechgcjdigpglaaGreat
