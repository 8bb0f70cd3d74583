/- civil.Weekday; slices.Index, Contains at numbers. Conditions: each theorem's own. recur.nth and what it calls. Conditions: the date is one of a calendar's. -/
import Derived.Test.YtechgcjdigpglaaGreatK2
import Derived.Test.YtechgcjdigpglaaGreatH2
import Derived.Test.YtechgcjdigpglaaGreatV15
namespace Go.Proofs.YtechgcjdigpglaaGreat
open Go.RowKit Go.ChangeShapes Go.WideShapes Go.Deep
set_option linter.all false

theorem tmod7 (n : Int) : ∃ t, n.tmod 7 = t ∧ -7 < t ∧ t < 7 ∧ t % 7 = n % 7 := by
  refine ⟨n.tmod 7, rfl, ?_⟩
  rw [Int.tmod_eq_emod]
  split <;> omega

theorem weekday_any (n : Int) (h0 : -1000000 ≤ n) (h1 : n ≤ 1000000) (w : World) :
    Calls Tryz.prog 204 #[.int .i64 n] w fun e w' => e = .returned (.int .i64 (n % 7)) ∧ w' = w := by
  by_cases h : 0 ≤ n
  · have E := Lib.hid (show (n % 7 + 7) % 7 = n % 7 by omega)
    go_enter Tryz.func204, Tryz.ntmps204
    go_wp2
    go_ret
    exact ⟨ret_i E.out, rfl⟩
  · obtain ⟨t, ht, t1, t2, t3⟩ := tmod7 n
    have E := Lib.hid t3
    clear t3
    go_enter Tryz.func204, Tryz.ntmps204
    go_wp2
    go_ret
    exact ⟨ret_i E.out, rfl⟩

/-- A row of numbers read in a world holds them. -/
theorem Row.intAt {w W : World} {o : Option Addr} {n c : Nat} {xs : List Int} (h : Row w 1 (rI .i64) (.slice o n c) xs) (hb : Below w.heap.size w W) (k : Nat) (hk : k < n) :
    ∃ x a1, xs[k]? = some x ∧ o = some a1 ∧ wfi .i64 x ∧ W.cell? (a1.add k) = some (.int .i64 x) := by
  obtain ⟨x, a1, cs1, hx, ho, q1, ⟨rfl, hwx⟩, q0, _⟩ := h.elem hb k hk
  have e0 := q0 (by decide)
  simp only [List.getElem?_cons_zero, Nat.mul_one] at e0
  exact ⟨x, a1, hx, ho, hwx, e0⟩

theorem indexI_any (o : Option Addr) (n c : Nat) (xs : List Int) (x : Int) (w : World) (h : Row w 1 (rI .i64) (.slice o n c) xs) (hn : n ≤ 100000000) :
    Calls Tryz.prog 229 #[.slice o n c, .int .i64 x] w fun e w' => (∃ i : Int, e = .returned (.int .i64 i) ∧ -1 ≤ i ∧ (0 ≤ i ↔ x ∈ xs)) ∧ w' = w := by
  have S := Lib.hid h
  have L := Lib.hid h.len
  clear h
  go_enter Tryz.func229, Tryz.ntmps229
  go_wp2_with fail
  go_loop [8] (fun i => ∃ k : Nat, k ≤ n ∧ i = .int .i64 (k : Nat) ∧ Hid (∀ j, j < k → xs[j]? ≠ some x)) (fun i => n - (intOf i).toNat)
  case atStart => exact ⟨0, Nat.zero_le _, rfl, fun j h => absurd h (Nat.not_lt_zero _)⟩
  case round =>
    obtain ⟨k, hk, rfl, I⟩ := hrel
    by_cases hlt : k < n
    · have hlt' : (k : Int) < (n : Int) := by omega
      obtain ⟨y, a1, hx, rfl, _, e0⟩ := S.out.intAt (Below.refl _ _) k hlt
      have HX := Lib.hid hx
      clear hx
      by_cases hxy : x = y
      · have b1 : (x == y) = true := by simpa using hxy
        have HM := Lib.hid (show x ∈ xs from hxy ▸ List.mem_of_getElem? HX.out)
        clear hxy
        go_wp2_with fail
        go_ret
        exact ⟨⟨_, rfl, by omega, fun _ => HM.out, fun _ => by omega⟩, rfl⟩
      · have b1 : (x == y) = false := by simpa using hxy
        have J := Lib.hid (show ∀ j, j < k + 1 → xs[j]? ≠ some x from fun j hj => by
          by_cases e : j = k
          · subst e; rw [HX.out]; intro e; cases e; exact hxy rfl
          · exact I.out j (by omega))
        clear hxy
        go_wp2_with fail
        go_round
        case measure => simp [intOf]; omega
        case rel => exact ⟨k + 1, by omega, by go_num, J.out⟩
    · go_wp2_with fail
      go_ret
      exact ⟨⟨-1, rfl, by omega, fun h => absurd h (by omega), fun h => by
        obtain ⟨j, hj⟩ := List.getElem?_of_mem h
        exact absurd hj (I.out j (by have := (List.getElem?_eq_some_iff.1 hj).1; have := L.out; omega))⟩, rfl⟩

theorem contains_any (v : Value) (xs : List Int) (x : Int) (w : World) (h : Row w 1 (rI .i64) v xs) (hn : xs.length ≤ 100000000) :
    Calls Tryz.prog 221 #[v, .int .i64 x] w fun e w' => e = .returned (.bool (dec (x ∈ xs))) ∧ w' = w := by
  obtain ⟨o, n, c, rfl, hl, _, _, R⟩ := h.open
  have C := Lib.hid (indexI_any o n c xs x w R (by omega))
  clear h R hl hn
  go_enter Tryz.func221, Tryz.ntmps221
  go_wp2_with fail
  (with_reducible refine C.out.mono ?_)
  rintro e w' ⟨⟨i, rfl, hi1, hi2⟩, rfl⟩
  have HI := Lib.hid hi2
  clear hi2
  by_cases h : 0 ≤ i
  · have d1 := decide_eq_true h
    have HP := Lib.hid (HI.out.1 h)
    go_wp2_with fail
    go_ret
    exact ⟨ret_t HP.out, rfl⟩
  · have d1 := decide_eq_false h
    have HP := Lib.hid (fun hx => h (HI.out.2 hx))
    go_wp2_with fail
    go_ret
    exact ⟨ret_f HP.out, rfl⟩
end Go.Proofs.YtechgcjdigpglaaGreat
namespace Go.Proofs.YtechgcjdigpglaaGreat
open Go.RowKit Go.ChangeShapes Go.WideShapes Go.Deep
set_option linter.all false

def nthOne (wd D L : Int) (x : DayND) : Prop := x.day = wd ∧ (x.n = 0 ∨ x.n = (D - 1) / 7 + 1 ∨ x.n = -((L - D) / 7 + 1))

set_option maxHeartbeats 4000000 in
theorem nthOne_any (x : DayND) (wd Y M D L : Int) (b5 b4 b7 : Nat) (w : World) (h5 : w.cell? ⟨b5, 0, none⟩ = some (.int .i64 wd)) (h4 : w.cell? ⟨b4, 2, none⟩ = some (.int .i64 D)) (h7 : w.cell? ⟨b7, 0, none⟩ = some (.int .i64 L))
    (hb5 : b5 < w.heap.size) (hb4 : b4 < w.heap.size) (hb7 : b7 < w.heap.size) (hD1 : 1 ≤ D) (hD2 : D ≤ L) (hL : L ≤ 31) :
    Calls Tryz.prog 237 #[.agg #[.int .i64 x.n, .int .i64 x.day], .pointer (some ⟨b5, 0, none⟩), .pointer (some ⟨b4, 0, none⟩), .pointer (some ⟨b7, 0, none⟩)] w fun e w' => e = .returned (.bool (dec (nthOne wd D L x))) ∧ Below w.heap.size w w' := by
  have HB := Lib.hid (fun ob => show Below w.heap.size w (w.alloc ob) from belowA _ (Below.refl _ _))
  obtain ⟨u, hu⟩ : ∃ u, u = (D - 1) / 7 := ⟨_, rfl⟩
  obtain ⟨v, hv⟩ : ∃ v, v = (L - D) / 7 := ⟨_, rfl⟩
  have HU := Lib.hid hu; have HV := Lib.hid hv
  clear hu hv
  go_enter Tryz.func237, Tryz.ntmps237
  go_wp2_with fail
  all_goals go_ret
  all_goals refine ⟨ret_dec ?_, HB.out _⟩
  all_goals unfold nthOne
  all_goals try simp only [decide_eq_true_eq, Bool.false_eq_true, false_iff, true_iff, beq_iff_eq, Bool.or_eq_true] at *
  all_goals omega

set_option maxHeartbeats 4000000 in
theorem indexDay (o : Option Addr) (n c : Nat) (xs : List DayND) (wd Y M D L : Int) (b5 b4 b7 : Nat) (w : World) (h : Row w 2 rDayN (.slice o n c) xs) (hn : n ≤ 100000000)
    (h5 : w.cell? ⟨b5, 0, none⟩ = some (.int .i64 wd)) (h4 : w.cell? ⟨b4, 2, none⟩ = some (.int .i64 D)) (h7 : w.cell? ⟨b7, 0, none⟩ = some (.int .i64 L))
    (hb5 : b5 < w.heap.size) (hb4 : b4 < w.heap.size) (hb7 : b7 < w.heap.size) (hD1 : 1 ≤ D) (hD2 : D ≤ L) (hL : L ≤ 31) :
    Calls Tryz.prog 238 #[.slice o n c, .func (.func 237) #[] #[.pointer (some ⟨b5, 0, none⟩), .pointer (some ⟨b4, 0, none⟩), .pointer (some ⟨b7, 0, none⟩)]] w fun e w' => (∃ i : Int, e = .returned (.int .i64 i) ∧ -1 ≤ i ∧ (0 ≤ i ↔ ∃ x ∈ xs, nthOne wd D L x)) ∧ Below w.heap.size w w' := by
  have S := Lib.hid h
  have HLN := Lib.hid h.len
  have C := Lib.hid (fun (x : DayND) (W : World) (hb : Below w.heap.size w W) => nthOne_any x wd Y M D L b5 b4 b7 W ((hb.cell (p := ⟨b5, 0, none⟩) hb5).trans h5) ((hb.cell (p := ⟨b4, 2, none⟩) hb4).trans h4) ((hb.cell (p := ⟨b7, 0, none⟩) hb7).trans h7) (Nat.lt_of_lt_of_le hb5 hb.size) (Nat.lt_of_lt_of_le hb4 hb.size) (Nat.lt_of_lt_of_le hb7 hb.size) hD1 hD2 hL)
  clear h h5 h4 h7 hb5 hb4 hb7 hD1 hD2 hL
  go_enter Tryz.func238, Tryz.ntmps238
  go_wp2_with fail
  go_loopw [8] (fun i wr => ∃ k : Nat, k ≤ n ∧ i = .int .i64 (k : Nat) ∧ Hid (∀ j x, j < k → xs[j]? = some x → ¬ nthOne wd D L x) ∧ Hid (Below w.heap.size w wr)) (fun i _ => n - (intOf i).toNat)
  case atStart => exact ⟨0, Nat.zero_le _, rfl, fun j x h => absurd h (Nat.not_lt_zero _), Below.refl _ _⟩
  case round =>
    obtain ⟨k, hk, rfl, I, HB⟩ := hrel
    obtain ⟨wl, rfl⟩ : ∃ x, x = wr := ⟨_, rfl⟩
    by_cases hlt : k < n
    · have hlt' : (k : Int) < (n : Int) := by omega
      obtain ⟨x, a1, cs1, hx, rfl, q1, ⟨rfl, _, _⟩, q0, q2⟩ := S.out.elem HB.out k hlt
      have e0 := q0 (by decide)
      have e1 := q2 1 (by decide) (by decide)
      simp only [List.getElem?_cons_zero, List.getElem?_cons_succ] at e0 e1
      have HX := Lib.hid hx
      clear q0 q1 q2 hx
      by_cases hp : nthOne wd D L x
      · have C1 := Lib.hid (c_t (C.out x wl HB.out) hp)
        have HM := Lib.hid (show ∃ x ∈ xs, nthOne wd D L x from ⟨x, List.mem_of_getElem? HX.out, hp⟩)
        clear hp
        go_wp2_with (go_at_call 237; ((with_reducible refine C1.out.mono ?_); rintro e w1 ⟨rfl, hb1⟩; have H1 := Lib.hid (HB.out.trans (hb1.mono HB.out.size)); clear hb1))
        go_ret
        exact ⟨⟨_, rfl, by omega, fun _ => HM.out, fun _ => by omega⟩, H1.out⟩
      · have C1 := Lib.hid (c_f (C.out x wl HB.out) hp)
        have J := Lib.hid (show ∀ j y, j < k + 1 → xs[j]? = some y → ¬ nthOne wd D L y from fun j y hj hy => by
          by_cases e : j = k
          · subst e; rw [HX.out] at hy; cases hy; exact hp
          · exact I.out j y (by omega) hy)
        clear hp
        go_wp2_with (go_at_call 237; ((with_reducible refine C1.out.mono ?_); rintro e w1 ⟨rfl, hb1⟩; have H1 := Lib.hid (HB.out.trans (hb1.mono HB.out.size)); clear hb1))
        go_roundw
        case measure => simp [intOf]; omega
        case rel => exact ⟨k + 1, by omega, by go_num, J.out, H1.out⟩
    · go_wp2_with fail
      go_ret
      exact ⟨⟨-1, rfl, by omega, fun h => absurd h (by omega), fun ⟨x, hm, hp⟩ => by
        obtain ⟨j, hj⟩ := List.getElem?_of_mem hm
        exact absurd hp (I.out j x (by have := (List.getElem?_eq_some_iff.1 hj).1; have := HLN.out; omega) hj)⟩, HB.out⟩

theorem containsDay (v : Value) (xs : List DayND) (wd Y M D L : Int) (b5 b4 b7 : Nat) (w : World) (h : Row w 2 rDayN v xs) (hn : xs.length ≤ 100000000)
    (h5 : w.cell? ⟨b5, 0, none⟩ = some (.int .i64 wd)) (h4 : w.cell? ⟨b4, 2, none⟩ = some (.int .i64 D)) (h7 : w.cell? ⟨b7, 0, none⟩ = some (.int .i64 L))
    (hb5 : b5 < w.heap.size) (hb4 : b4 < w.heap.size) (hb7 : b7 < w.heap.size) (hD1 : 1 ≤ D) (hD2 : D ≤ L) (hL : L ≤ 31) :
    Calls Tryz.prog 236 #[v, .func (.func 237) #[] #[.pointer (some ⟨b5, 0, none⟩), .pointer (some ⟨b4, 0, none⟩), .pointer (some ⟨b7, 0, none⟩)]] w fun e w' => e = .returned (.bool (dec (∃ x ∈ xs, nthOne wd D L x))) ∧ Below w.heap.size w w' := by
  obtain ⟨o, n, c, rfl, hl, _, _, R⟩ := h.open
  have C := Lib.hid (indexDay o n c xs wd Y M D L b5 b4 b7 w R (by omega) h5 h4 h7 hb5 hb4 hb7 hD1 hD2 hL)
  clear h R hl hn h5 h4 h7 hb5 hb4 hb7 hD1 hD2 hL
  go_enter Tryz.func236, Tryz.ntmps236
  go_wp2_with fail
  (with_reducible refine C.out.mono ?_)
  rintro e w1 ⟨⟨i, rfl, hi1, hi2⟩, hb⟩
  have HI := Lib.hid hi2; have HB := Lib.hid hb
  clear hi2 hb
  by_cases h : 0 ≤ i
  · have d1 := decide_eq_true h
    have HP := Lib.hid (HI.out.1 h)
    go_wp2_with fail
    go_ret
    exact ⟨ret_t HP.out, HB.out⟩
  · have d1 := decide_eq_false h
    have HP := Lib.hid (fun hx => h (HI.out.2 hx))
    go_wp2_with fail
    go_ret
    exact ⟨ret_f HP.out, HB.out⟩

/-- recur.nth: is a day as one of the rule's days says. -/
theorem nth_any (v : Value) (xs : List DayND) (x : Int) (hx0 : 0 ≤ x) (hx1 : x < 109938) (w : World) (h : Row w 2 rDayN v xs) (hn : xs.length ≤ 100000000) :
    Calls Tryz.prog 232 #[v, .agg #[.int .i64 (dateY x), .int .i64 (dateM x), .int .i64 (dD x)], .int .i64 (x % 7)] w fun e w' => e = .returned (.bool (dec (nthP xs x))) ∧ Below w.heap.size w w' := by
  obtain ⟨hv, -, m1, m2⟩ := date_valid x hx0 hx1
  obtain ⟨v1, v2, v3, v4⟩ := hv
  have hlb := lenM_bd (dateY x) (dateM x)
  obtain ⟨Y, hY⟩ : ∃ Y, Y = dateY x := ⟨_, rfl⟩
  obtain ⟨M, hM⟩ : ∃ M, M = dateM x := ⟨_, rfl⟩
  obtain ⟨D, hD⟩ : ∃ D, D = dD x := ⟨_, rfl⟩
  obtain ⟨L, hL⟩ : ∃ L, L = lenM Y M := ⟨_, rfl⟩
  obtain ⟨wd, hwd⟩ : ∃ d, d = x % 7 := ⟨_, rfl⟩
  have LN := Lib.hid (fun W => quiet_eq (length_any Y M (by omega) (by omega) (by omega) (by omega) W))
  rw [← hL] at LN
  have HP := Lib.hid (show nthP xs x = ∃ y ∈ xs, nthOne wd D L y by unfold nthP nthOne; rw [hwd, hD, hL, hY, hM])
  rw [← hY, ← hM, ← hD, ← hwd]
  have HC := Lib.hid (fun W (b5 b4 b7 : Nat) (hb : Below w.heap.size w W) h5 h4 h7 h1 h2 h3 => containsDay v xs wd Y M D L b5 b4 b7 W (h.later' hb) hn h5 h4 h7 h1 h2 h3 (by omega) (by rw [hL, hY, hM, hD]; exact v4) (by rw [hL, hY, hM]; omega))
  clear hY hM hD hL hwd h hn v1 v2 v3 v4 hlb m1 m2 hx0 hx1
  go_enter Tryz.func232, Tryz.ntmps232
  go_wp2_with (go_at_call 228; ((with_reducible refine (LN.out _).mono ?_); rintro e w1 ⟨rfl, rfl⟩))
  have HB := Lib.hid (show Below w.heap.size w (((w.alloc (.cells #[.int .i64 Y, .int .i64 M, .int .i64 D] 131)).alloc (.cells #[.int .i64 wd] 3)).alloc (.cells #[.int .i64 L] 3)) from (((Below.refl _ _).alloc (Nat.le_refl _) _).alloc (by simp) _).alloc (by simp <;> omega) _)
  (with_reducible refine (HC.out _ _ _ _ HB.out (by simp [go_sem]) (by simp [go_sem]) (by simp [go_sem]) (by simp <;> omega) (by simp <;> omega) (by simp <;> omega)).mono ?_)
  rintro e w1 ⟨rfl, hb⟩
  have HB1 := Lib.hid (HB.out.trans (hb.mono HB.out.size))
  clear hb
  go_wp2_with fail
  go_ret
  rw [HP.out]
  exact ⟨rfl, HB1.out⟩
end Go.Proofs.YtechgcjdigpglaaGreat
