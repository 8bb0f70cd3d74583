/- civil.Weekday; slices.Index, Contains at numbers. Conditions: each theorem's own. -/
import Derived.Test.YtcleicjgeflbnaaGreatK2
import Derived.Test.YtcleicjgeflbnaaGreatH2
import Derived.Test.YtcleicjgeflbnaaGreatV15
namespace Go.Proofs.YtcleicjgeflbnaaGreat
open Go.RowKit Go.ChangeShapes Go.WideShapes Go.Deep
set_option linter.all false

theorem tmod7 (n : Int) : ∃ t, n.tmod 7 = t ∧ -7 < t ∧ t < 7 ∧ t % 7 = n % 7 := by
  refine ⟨n.tmod 7, rfl, ?_⟩
  rw [Int.tmod_eq_emod]
  split <;> omega

theorem weekday_any (n : Int) (h0 : -1000000 ≤ n) (h1 : n ≤ 1000000) (w : World) :
    Calls Tryz.prog 133 #[.int .i64 n] w fun e w' => e = .returned (.int .i64 (n % 7)) ∧ w' = w := by
  by_cases h : 0 ≤ n
  · have E := Lib.hid (show (n % 7 + 7) % 7 = n % 7 by omega)
    go_enter Tryz.func133, Tryz.ntmps133
    go_wp2
    go_ret
    exact ⟨ret_i E.out, rfl⟩
  · obtain ⟨t, ht, t1, t2, t3⟩ := tmod7 n
    have E := Lib.hid t3
    clear t3
    go_enter Tryz.func133, Tryz.ntmps133
    go_wp2
    go_ret
    exact ⟨ret_i E.out, rfl⟩

/-- A row of numbers read in a world holds them. -/
theorem Row.intAt {w W : World} {o : Option Addr} {n c : Nat} {xs : List Int} (h : Row w 1 (rI .i64) (.slice o n c) xs) (hb : Below w.heap.size w W) (k : Nat) (hk : k < n) :
    ∃ x a1, xs[k]? = some x ∧ o = some a1 ∧ wfi .i64 x ∧ W.cell? (a1.add k) = some (.int .i64 x) := by
  obtain ⟨x, a1, cs1, hx, ho, q1, ⟨rfl, hwx⟩, q0, _⟩ := h.elem hb k hk
  have e0 := q0 (by decide)
  simp only [List.getElem?_cons_zero, Nat.mul_one] at e0
  exact ⟨x, a1, hx, ho, hwx, e0⟩

theorem indexI_any (o : Option Addr) (n c : Nat) (xs : List Int) (x : Int) (w : World) (h : Row w 1 (rI .i64) (.slice o n c) xs) (hn : n ≤ 100000000) :
    Calls Tryz.prog 141 #[.slice o n c, .int .i64 x] w fun e w' => (∃ i : Int, e = .returned (.int .i64 i) ∧ -1 ≤ i ∧ (0 ≤ i ↔ x ∈ xs)) ∧ w' = w := by
  have S := Lib.hid h
  have L := Lib.hid h.len
  clear h
  go_enter Tryz.func141, Tryz.ntmps141
  go_wp2_with fail
  go_loop [8] (fun i => ∃ k : Nat, k ≤ n ∧ i = .int .i64 (k : Nat) ∧ Hid (∀ j, j < k → xs[j]? ≠ some x)) (fun i => n - (intOf i).toNat)
  case atStart => exact ⟨0, Nat.zero_le _, rfl, fun j h => absurd h (Nat.not_lt_zero _)⟩
  case round =>
    obtain ⟨k, hk, rfl, I⟩ := hrel
    by_cases hlt : k < n
    · have hlt' : (k : Int) < (n : Int) := by omega
      obtain ⟨y, a1, hx, rfl, _, e0⟩ := S.out.intAt (Below.refl _ _) k hlt
      have HX := Lib.hid hx
      clear hx
      by_cases hxy : x = y
      · have b1 : (x == y) = true := by simpa using hxy
        have HM := Lib.hid (show x ∈ xs from hxy ▸ List.mem_of_getElem? HX.out)
        clear hxy
        go_wp2_with fail
        go_ret
        exact ⟨⟨_, rfl, by omega, fun _ => HM.out, fun _ => by omega⟩, rfl⟩
      · have b1 : (x == y) = false := by simpa using hxy
        have J := Lib.hid (show ∀ j, j < k + 1 → xs[j]? ≠ some x from fun j hj => by
          by_cases e : j = k
          · subst e; rw [HX.out]; intro e; cases e; exact hxy rfl
          · exact I.out j (by omega))
        clear hxy
        go_wp2_with fail
        go_round
        case measure => simp [intOf]; omega
        case rel => exact ⟨k + 1, by omega, by go_num, J.out⟩
    · go_wp2_with fail
      go_ret
      exact ⟨⟨-1, rfl, by omega, fun h => absurd h (by omega), fun h => by
        obtain ⟨j, hj⟩ := List.getElem?_of_mem h
        exact absurd hj (I.out j (by have := (List.getElem?_eq_some_iff.1 hj).1; have := L.out; omega))⟩, rfl⟩

theorem contains_any (v : Value) (xs : List Int) (x : Int) (w : World) (h : Row w 1 (rI .i64) v xs) (hn : xs.length ≤ 100000000) :
    Calls Tryz.prog 135 #[v, .int .i64 x] w fun e w' => e = .returned (.bool (dec (x ∈ xs))) ∧ w' = w := by
  obtain ⟨o, n, c, rfl, hl, _, _, R⟩ := h.open
  have C := Lib.hid (indexI_any o n c xs x w R (by omega))
  clear h R hl hn
  go_enter Tryz.func135, Tryz.ntmps135
  go_wp2_with fail
  (with_reducible refine C.out.mono ?_)
  rintro e w' ⟨⟨i, rfl, hi1, hi2⟩, rfl⟩
  have HI := Lib.hid hi2
  clear hi2
  by_cases h : 0 ≤ i
  · have d1 := decide_eq_true h
    have HP := Lib.hid (HI.out.1 h)
    go_wp2_with fail
    go_ret
    exact ⟨ret_t HP.out, rfl⟩
  · have d1 := decide_eq_false h
    have HP := Lib.hid (fun hx => h (HI.out.2 hx))
    go_wp2_with fail
    go_ret
    exact ⟨ret_f HP.out, rfl⟩
end Go.Proofs.YtcleicjgeflbnaaGreat
