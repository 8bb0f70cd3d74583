/- recur.walker: places. Conditions: the walker lies as walk laid it. -/
import Derived.Test.YtechgcjdigpglaaGreatK9
namespace Go.Proofs.YtechgcjdigpglaaGreat
open Go.RowKit Go.ChangeShapes Go.WideShapes Go.Deep
set_option linter.all false

theorem nil_row {α : Type} (w : World) (k : Nat) (R : List Value → α → Prop) : Row w k R (.slice none 0 0) [] :=
  ⟨none, 0, 0, rfl, fun _ => rfl, rfl, Nat.le_refl _, by unfold maxLen; omega, fun i x h => by simp at h⟩
theorem flat_at {α : Type} (enc : α → List Value) (z : Nat) : ∀ (xs : List α), (∀ x ∈ xs, (enc x).length = z) → ∀ (i : Nat) (x : α), xs[i]? = some x → ∀ j, j < z → (xs.flatMap enc)[i * z + j]? = (enc x)[j]?
  | [], _, i, x, hx, j, hj => by simp at hx
  | y :: r, h, 0, x, hx, j, hj => by
    simp at hx
    subst hx
    rw [List.flatMap_cons, List.getElem?_append_left (by rw [h y (by simp)]; omega)]
    simp
  | y :: r, h, i + 1, x, hx, j, hj => by
    have e : (i + 1) * z + j = z + (i * z + j) := by rw [Nat.succ_mul]; omega
    have ih := flat_at enc z r (fun q hq => h q (List.mem_cons_of_mem _ hq)) i x (by simpa using hx) j hj
    rw [List.flatMap_cons, List.getElem?_append_right (by rw [h y (by simp)]; omega), h y (by simp), ← ih, e]
    congr 1
    omega
theorem row_own {α : Type} {W : World} {B : Nat} {e : TypeId} {z : Nat} {v : Value} {xs : List α} (enc : α → List Value) (R : List Value → α → Prop) (h : W.ownsRow B e z v xs.length (xs.flatMap enc)) (henc : ∀ x ∈ xs, (enc x).length = z ∧ R (enc x) x) : Row W z R v xs := by
  have hc := h
  obtain ⟨h1, h2 | ⟨g, cap, cur, rfl, a1, a2, a3, a4, a5, a6⟩⟩ := h
  · obtain ⟨rfl, h0⟩ := h2
    rw [List.eq_nil_of_length_eq_zero h0]
    exact nil_row _ _ _
  · refine ⟨some ⟨g, 0, none⟩, xs.length, cap, rfl, (fun e => (by cases e)), rfl, a3, a4, fun i x hx => ?_⟩
    have hm := List.mem_of_getElem? hx
    refine ⟨⟨g, 0, none⟩, enc x, rfl, (henc x hm).1, fun j hj => ?_, (henc x hm).2⟩
    have hf := flat_at enc z xs (fun y hy => (henc y hy).1) i x hx j hj
    have hs : (enc x)[j]? = some ((enc x)[j]'(by rw [(henc x hm).1]; exact hj)) := List.getElem?_eq_getElem _
    rw [hs] at hf ⊢
    exact hc.cells (g := g) rfl _ _ hf
theorem own_keep {W W' : World} {B : Nat} {e : TypeId} {z n : Nat} {v : Value} {xs : List Value} (h : W.ownsRow B e z v n xs) (hk : ∀ k, B ≤ k → k < W.heap.size → W'.heap[k]? = W.heap[k]?) : W'.ownsRow B e z v n xs := by
  obtain ⟨h1, h2 | ⟨g, cap, cur, e, a1, a2, a3⟩⟩ := h
  · exact ⟨h1, .inl h2⟩
  · exact ⟨h1, .inr ⟨g, cap, cur, e, a1, (hk g a1 (Array.getElem?_eq_some_iff.1 a2).1).trans a2, a3⟩⟩
/-- Of a row's first days those at the places. -/
noncomputable def keptTo (pos xs : List Int) (k : Nat) : List Int := placeAux pos xs.length 0 (xs.take k)
theorem keptTo_step {pos xs : List Int} {k : Nat} {x : Int} (hx : xs[k]? = some x) : keptTo pos xs (k + 1) = keptTo pos xs k ++ if dec ((k : Int) + 1 ∈ pos ∨ (k : Int) - (xs.length : Int) ∈ pos) = true then [x] else [] := by
  unfold keptTo
  have hl := (List.getElem?_eq_some_iff.1 hx).1
  rw [List.take_add_one, hx, placeAux_append]
  congr 1
  rw [Nat.zero_add, List.length_take, Nat.min_eq_left (by omega)]
  simp only [Option.toList_some, placeAux]
theorem keptTo_le (pos xs : List Int) (k : Nat) : (keptTo pos xs k).length ≤ xs.length :=
  Nat.le_trans (placeAux_sub _ _ _ _).length_le (by rw [List.length_take]; omega)
theorem keptTo_all {pos xs : List Int} {k : Nat} (h : xs.length ≤ k) : keptTo pos xs k = placeAux pos xs.length 0 xs := by
  unfold keptTo
  rw [List.take_of_length_le h]
theorem wfi_days {x : Int} (h0 : -9000000000 ≤ x) (h1 : x ≤ 9000000000) : wfi .i64 x := by
  unfold wfi IntKind.min IntKind.max
  simp [IntKind.bits, IntKind.signed]
  omega
theorem wfi_bd {x : Int} (h : wfi .i64 x) : -9223372036854775808 ≤ x ∧ x ≤ 9223372036854775807 := h

set_option maxHeartbeats 16000000 in
set_option maxRecDepth 100000 in
theorem places_any (r : RuleD) (s mi : Int) (b : Nat) (w : World) (hW : Wk r s mi b w) (v : Value) (xs : List Int) (hv : Row w 1 (rI .i64) v xs) (hl : xs.length ≤ 10000) (hf : r.bySetPos.length ≤ 10000) :
    Calls Tryz.prog 209 #[.pointer (some ⟨b, 0, none⟩), v] w fun e w' => ∃ v', e = .returned v' ∧ ((v' = v ∧ placesF r xs = xs) ∨ w'.ownsRow w.heap.size 3 1 v' (placesF r xs).length (inC (placesF r xs))) ∧ Below w.heap.size w w' := by
  obtain ⟨i0, hi, hz0, hz1, hz2⟩ := info_parts infoInt
  obtain ⟨om, nm, cm, od, nd, cd, oy, ny, cy, op, np, cp, hxx, h2, h3, h4, h5⟩ := hW.lies
  obtain ⟨o, n, c, rfl, hln, _, _, R⟩ := hv.open
  have kA : ∀ j, w.cell? ⟨b, j, none⟩ = (#[.int .i64 r.freq, .int .i64 r.interval, .int .i64 r.count, .int .i64 r.until_, .slice om nm cm, .slice od nd cd, .slice oy ny cy, .slice op np cp, .int .i64 r.start, .int .i64 s, .int .i64 (dateY s), .int .i64 (dateM s), .int .i64 (dD s), .int .i64 mi] : Array Value)[j]? := hxx.cell
  have hbw : b < w.heap.size := hxx.lt
  have HP := Lib.hid (nil_iff h5.len)
  have HR := Lib.hid R
  have HLN := Lib.hid hln
  have hn : n ≤ 10000 := by omega
  by_cases hp0 : np = 0
  · have HE := Lib.hid (show placesF r xs = xs by unfold placesF; rw [if_pos (HP.out.2 hp0)])
    have b0 : ((np : Int) == 0) = true := by simp [hp0]
    have b0n : (np == 0) = true := by simp [hp0]
    clear hW hxx h2 h3 h4 h5 hv R hln hp0 hf
    go_enter Tryz.func209, Tryz.ntmps209
    go_wp2_with fail
    go_ret
    exact ⟨_, rfl, .inl ⟨rfl, HE.out⟩, Below.refl _ _⟩
  · have HE := Lib.hid (show placesF r xs = keptTo r.bySetPos xs n by unfold placesF; rw [if_neg (fun h => hp0 (HP.out.1 h)), keptTo_all (by omega)])
    have b0 : ((np : Int) == 0) = false := by rw [beq_eq_false_iff_ne]; omega
    have b0n : (np == 0) = false := by rw [beq_eq_false_iff_ne]; omega
    have CP := Lib.hid (fun x W (hb : Below w.heap.size w W) => contains_any _ r.bySetPos x W (h5.later' hb) (by omega))
    clear hW hxx h2 h3 h4 h5 hv R hln hp0 hf
    go_enter Tryz.func209, Tryz.ntmps209
    go_wp2_with fail
    go_loopw [5, 18] (fun v i wr => ∃ k : Nat, k ≤ n ∧ i = .int .i64 (k : Nat) ∧ Hid (wr.ownsRow w.heap.size 3 1 v (keptTo r.bySetPos xs k).length (inC (keptTo r.bySetPos xs k))) ∧ Hid (Below w.heap.size w wr)) (fun _ i _ => n - (intOf i).toNat)
    case atStart => exact ⟨0, Nat.zero_le _, rfl, Lib.hid (by unfold keptTo; exact World.ownsRow_nil _ _ _ _), Lib.hid (Below.refl _ _)⟩
    case round =>
      obtain ⟨k, hk, rfl, HO, HB⟩ := hrel
      obtain ⟨wl, rfl⟩ : ∃ x, x = wr := ⟨_, rfl⟩
      have kB : ∀ j, wl.cell? ⟨b, j, none⟩ = (#[.int .i64 r.freq, .int .i64 r.interval, .int .i64 r.count, .int .i64 r.until_, .slice om nm cm, .slice od nd cd, .slice oy ny cy, .slice op np cp, .int .i64 r.start, .int .i64 s, .int .i64 (dateY s), .int .i64 (dateM s), .int .i64 (dD s), .int .i64 mi] : Array Value)[j]? := fun j => (HB.out.cell (p := ⟨b, j, none⟩) hbw).trans (kA j)
      by_cases hlt : k < n
      · have hlt' : (k : Int) < (n : Int) := by omega
        obtain ⟨x, a1, hx, rfl, _, e0⟩ := HR.out.intAt HB.out k hlt
        have hkl := keptTo_le r.bySetPos xs k
        have hkl2 : (keptTo r.bySetPos xs k).length ≤ 10000 := by have := HLN.out; omega
        have HS := Lib.hid (keptTo_step (pos := r.bySetPos) hx)
        rw [HLN.out] at HS
        have CQ := Lib.hid (show ∀ W, Below w.heap.size w W → Calls Tryz.prog 221 #[.slice op np cp, .int .i64 ((k : Int) + 1)] W _ from fun W hb => CP.out ((k : Int) + 1) W hb)
        have CR := Lib.hid (fun W hb => CP.out ((k : Int) - (n : Int)) W hb)
        clear hx hkl
        by_cases hP : (k : Int) + 1 ∈ r.bySetPos
        · have C1 := Lib.hid (fun W hb => c_t (CQ.out W hb) hP)
          have HG := Lib.hid (show keptTo r.bySetPos xs (k + 1) = keptTo r.bySetPos xs k ++ [x] by rw [HS.out, if_pos (dec_t (.inl hP))])
          clear hP CQ CR HS
          go_wp2_with (first | (go_at_call 221; ((with_reducible refine (C1.out _ HB.out).mono ?_); rintro e w2 ⟨rfl, hw2⟩; obtain rfl := hw2.symm)) | (at_builtin; refine wpList_append_own (wl.alloc (.cells #[.int .i64 x] 3)) rfl (.tmp 43) (.tmp 45) 25 rfl w.heap.size 3 i0 (.int .i64 0) 1 8 underInts hi hz0 hz1 hz2 rfl (by decide) u5 (keptTo r.bySetPos xs k).length (inC (keptTo r.bySetPos xs k)) rfl (HO.out.alloc _) ⟨wl.heap.size, 0, none⟩ 1 1 [.int .i64 x] rfl rfl ?c1 ?c2 ?c3 ?c4 ?c5 ?_))
          case c1 =>
            intro j u hj
            match j, hj with
            | 0, hj => simp at hj; subst hj; simp [Addr.add]
            | (_ + 1), hj => simp at hj
          case c2 => intro u hu; simp at hu; subst hu; rfl
          case c3 => unfold maxLen; omega
          case c4 => omega
          case c5 => have := HB.out.size; simp; omega
          intro v' w4 hown hgrow _
          have HB4 := Lib.hid ((HB.out.alloc HB.out.size (.cells #[.int .i64 x] 3)).grown hgrow (by have := HB.out.size; simp; omega) (fun j hj => (HO.out.lt j hj).1))
          have HO4 := Lib.hid (show w4.ownsRow w.heap.size 3 1 v' (keptTo r.bySetPos xs (k + 1)).length (inC (keptTo r.bySetPos xs (k + 1))) by
            rw [HG.out, inC_append, List.length_append]
            exact hown)
          clear hown hgrow
          go_wp2_with fail
          go_roundw
          case measure => simp [intOf]; omega
          case rel => exact ⟨k + 1, by omega, by go_num, HO4, HB4⟩
        · have C1 := Lib.hid (fun W hb => c_f (CQ.out W hb) hP)
          by_cases hQ : (k : Int) - (n : Int) ∈ r.bySetPos
          · have C2 := Lib.hid (fun W hb => c_t (CR.out W hb) hQ)
            have HG := Lib.hid (show keptTo r.bySetPos xs (k + 1) = keptTo r.bySetPos xs k ++ [x] by rw [HS.out, if_pos (dec_t (.inr hQ))])
            clear hP hQ CQ CR HS
            go_wp2_with (first | (go_at_call 221; ((with_reducible refine (C1.out _ HB.out).mono ?_); rintro e w2 ⟨rfl, hw2⟩; obtain rfl := hw2.symm)) | (go_at_call 221; ((with_reducible refine (C2.out _ HB.out).mono ?_); rintro e w2 ⟨rfl, hw2⟩; obtain rfl := hw2.symm)) | (at_builtin; refine wpList_append_own (wl.alloc (.cells #[.int .i64 x] 3)) rfl (.tmp 43) (.tmp 45) 25 rfl w.heap.size 3 i0 (.int .i64 0) 1 8 underInts hi hz0 hz1 hz2 rfl (by decide) u5 (keptTo r.bySetPos xs k).length (inC (keptTo r.bySetPos xs k)) rfl (HO.out.alloc _) ⟨wl.heap.size, 0, none⟩ 1 1 [.int .i64 x] rfl rfl ?d1 ?d2 ?d3 ?d4 ?d5 ?_))
            case d1 =>
              intro j u hj
              match j, hj with
              | 0, hj => simp at hj; subst hj; simp [Addr.add]
              | (_ + 1), hj => simp at hj
            case d2 => intro u hu; simp at hu; subst hu; rfl
            case d3 => unfold maxLen; omega
            case d4 => omega
            case d5 => have := HB.out.size; simp; omega
            intro v' w4 hown hgrow _
            have HB4 := Lib.hid ((HB.out.alloc HB.out.size (.cells #[.int .i64 x] 3)).grown hgrow (by have := HB.out.size; simp; omega) (fun j hj => (HO.out.lt j hj).1))
            have HO4 := Lib.hid (show w4.ownsRow w.heap.size 3 1 v' (keptTo r.bySetPos xs (k + 1)).length (inC (keptTo r.bySetPos xs (k + 1))) by
              rw [HG.out, inC_append, List.length_append]
              exact hown)
            clear hown hgrow
            go_wp2_with fail
            go_roundw
            case measure => simp [intOf]; omega
            case rel => exact ⟨k + 1, by omega, by go_num, HO4, HB4⟩
          · have C2 := Lib.hid (fun W hb => c_f (CR.out W hb) hQ)
            have HG := Lib.hid (show keptTo r.bySetPos xs (k + 1) = keptTo r.bySetPos xs k by rw [HS.out, if_neg (by rw [dec_f (fun h => h.elim hP hQ)]; decide), List.append_nil])
            clear hP hQ CQ CR HS
            go_wp2_with (first | (go_at_call 221; ((with_reducible refine (C1.out _ HB.out).mono ?_); rintro e w2 ⟨rfl, hw2⟩; obtain rfl := hw2.symm)) | (go_at_call 221; ((with_reducible refine (C2.out _ HB.out).mono ?_); rintro e w2 ⟨rfl, hw2⟩; obtain rfl := hw2.symm)))
            go_roundw
            case measure => simp [intOf]; omega
            case rel => exact ⟨k + 1, by omega, by go_num, Lib.hid (by rw [HG.out]; exact HO.out), HB⟩
      · obtain rfl : n = k := by omega
        go_wp2_with fail
        go_ret
        exact ⟨u5, rfl, .inr (by rw [HE.out]; exact HO.out), HB.out⟩
end Go.Proofs.YtechgcjdigpglaaGreat
