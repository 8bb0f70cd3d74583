/- event: stamp, row. Condition: at most ten thousand places. event: changes. Condition: at most ten thousand places. -/
import Derived.Test.YtechgcjdigpglaaGreatK16
namespace Go.Proofs.YtechgcjdigpglaaGreat
open Go.RowKit Go.ChangeShapes Go.WideShapes Go.Deep
set_option linter.all false

theorem stampE_any (n : Int) (w : World) : Calls Tryz.prog 41 #[.int .i64 n] w fun e w' => e = .returned (.bool (dec (startOk n))) ∧ w' = w := by
  by_cases h1 : 0 ≤ n
  · have d1 := decide_eq_true h1
    by_cases h2 : n < 158310720
    · have d2 := decide_eq_true h2
      rw [dec_t (show startOk n from ⟨h1, h2⟩)]
      go_enter Tryz.func41, Tryz.ntmps41
      go_wp2
      go_ret
      exact ⟨rfl, rfl⟩
    · have d2 := decide_eq_false h2
      rw [dec_f (show ¬ startOk n from fun h => h2 h.2)]
      go_enter Tryz.func41, Tryz.ntmps41
      go_wp2
      go_ret
      exact ⟨rfl, rfl⟩
  · have d1 := decide_eq_false h1
    rw [dec_f (show ¬ startOk n from fun h => h1 h.1)]
    go_enter Tryz.func41, Tryz.ntmps41
    go_wp2
    go_ret
    exact ⟨rfl, rfl⟩

/-- May a row of stamps be. -/
def rowE (xs : List Int) : Prop := (∀ x ∈ xs, startOk x) ∧ rises xs ∧ xs.length ≤ 50

set_option maxHeartbeats 4000000 in
set_option maxRecDepth 100000 in
theorem rowE_any (v : Value) (xs : List Int) (w : World) (h : Row w 1 (rI .i64) v xs) (hn : xs.length ≤ 10000) :
    Calls Tryz.prog 44 #[v] w fun e w' => e = .returned (.bool (dec (rowE xs))) ∧ w' = w := by
  obtain ⟨o, n, c, rfl, hl, -, -, R⟩ := h.open
  have S := Lib.hid R
  have L := Lib.hid hl
  have ST := Lib.hid (fun n W => stampE_any n W)
  have hnn : n ≤ 10000 := by omega
  clear h R hl hn
  go_enter Tryz.func44, Tryz.ntmps44
  go_wp2_with fail
  go_loopw [7] (fun b wr => ∃ k : Nat, k ≤ n ∧ b = .int .i64 (k : Nat) ∧ wr = w ∧ Hid (∀ (i : Nat) x, i < k → xs[i]? = some x → startOk x) ∧ Hid (risesTo xs k)) (fun b _ => n - (intOf b).toNat)
  case atStart => exact ⟨0, Nat.zero_le _, rfl, rfl, fun i x h => absurd h (Nat.not_lt_zero _), fun i a b h => absurd h (by omega)⟩
  case round =>
    obtain ⟨k, hk, rfl, rfl, I1, I2⟩ := hrel
    by_cases hlt : k < n
    · have hlt' : (k : Int) < (n : Int) := by omega
      obtain ⟨x, a1, hx, rfl, _, e0⟩ := S.out.intAt (Below.refl _ _) k hlt
      have HX := Lib.hid hx
      clear hx
      by_cases hs : startOk x
      · have W1 := Lib.hid (fun W => c_t (ST.out x W) hs)
        have J1 := Lib.hid (show ∀ (i : Nat) z, i < k + 1 → xs[i]? = some z → startOk z from fun i z hi hz => by
          by_cases e : i = k
          · subst e; rw [HX.out] at hz; cases hz; exact hs
          · exact I1.out i z (by omega) hz)
        clear hs
        by_cases hk0 : k = 0
        · have J2 := Lib.hid (show risesTo xs (k + 1) from fun i a b hi => absurd hi (by omega))
          have d4 : ¬ (0 : Int) < (k : Int) := by omega
          have d5 : ¬ 0 < k := by omega
          clear hk0
          go_wp2_with (go_at_call 41; ((with_reducible refine (W1.out _).mono ?_); rintro e w1 ⟨rfl, rfl⟩))
          go_roundw
          case measure => simp [intOf]; omega
          case rel => exact ⟨k + 1, by omega, by go_num, by trivial, J1.out, J2.out⟩
        · have hk1 : 1 ≤ k := by omega
          have hk2 : (0 : Int) < (k : Int) := by omega
          obtain ⟨y, a2, hy, ha, _, f0⟩ := S.out.intAt (Below.refl _ _) (k - 1) (by omega)
          cases ha
          have HY := Lib.hid hy
          have hk3 : (0 : Int) ≤ (k : Int) - 1 := by omega
          have hk4 : (k : Int) - 1 < (n : Int) := by omega
          have hk6 : (1 : Int) ≤ (k : Int) := by omega
          have hk5 : ((k : Int) - 1).toNat = k - 1 := by omega
          have hw5 : IntKind.i64.wrap ((k : Int) - 1) = (k : Int) - 1 := by rw [IntKind.wrap_i64]; omega
          clear hy hk0
          by_cases hxy : x ≤ y
          · have d1 := decide_eq_true hxy
            have HN := Lib.hid (show ¬ rowE xs from fun h => by
              have := h.2.1 (k - 1) y x HY.out (by rw [show k - 1 + 1 = k by omega]; exact HX.out)
              omega)
            clear hxy
            go_wp2_with (go_at_call 41; ((with_reducible refine (W1.out _).mono ?_); rintro e w1 ⟨rfl, rfl⟩))
            go_ret
            exact ⟨ret_f HN.out, rfl⟩
          · have d1 := decide_eq_false hxy
            have J2 := Lib.hid (show risesTo xs (k + 1) from fun i a b hi ha hb => by
              by_cases e : i + 1 = k
              · obtain rfl : i = k - 1 := by omega
                rw [HY.out] at ha; rw [show k - 1 + 1 = k by omega, HX.out] at hb; cases ha; cases hb; omega
              · exact I2.out i a b (by omega) ha hb)
            clear hxy
            go_wp2_with (go_at_call 41; ((with_reducible refine (W1.out _).mono ?_); rintro e w1 ⟨rfl, rfl⟩))
            go_roundw
            case measure => simp [intOf]; omega
            case rel => exact ⟨k + 1, by omega, by go_num, by trivial, J1.out, J2.out⟩
      · have W1 := Lib.hid (fun W => c_f (ST.out x W) hs)
        have HN := Lib.hid (show ¬ rowE xs from fun h => hs (h.1 x (List.mem_of_getElem? HX.out)))
        clear hs
        go_wp2_with (go_at_call 41; ((with_reducible refine (W1.out _).mono ?_); rintro e w1 ⟨rfl, rfl⟩))
        go_ret
        exact ⟨ret_f HN.out, rfl⟩
    · obtain rfl : n = k := by omega
      have HALL := Lib.hid (show ∀ x ∈ xs, startOk x from fun x hx => by
        obtain ⟨i, hi, rfl⟩ := List.getElem_of_mem hx
        exact I1.out i _ (by have := L.out; omega) (List.getElem?_eq_getElem hi))
      have HR := Lib.hid (show rises xs from fun i a b ha hb => I2.out i a b (by
        have := (List.getElem?_eq_some_iff.1 hb).1
        have := L.out
        omega) ha hb)
      by_cases h5 : n ≤ 50
      · have d1 : decide ((n : Int) ≤ 50) = true := decide_eq_true (by omega)
        have d2 : (n : Int) ≤ 50 := by omega
        go_wp2_with fail
        go_ret
        exact ⟨ret_t ⟨HALL.out, HR.out, by rw [L.out]; exact h5⟩, rfl⟩
      · have d1 : decide ((n : Int) ≤ 50) = false := decide_eq_false (by omega)
        have d2 : ¬ (n : Int) ≤ 50 := by omega
        go_wp2_with fail
        go_ret
        exact ⟨ret_f fun h => h5 (by have := h.2.2; rw [L.out] at this; exact this), rfl⟩
end Go.Proofs.YtechgcjdigpglaaGreat
namespace Go.Proofs.YtechgcjdigpglaaGreat
open Go.RowKit Go.ChangeShapes Go.WideShapes Go.Deep
set_option linter.all false

def changeOne (c : ChangeD) : Prop := startOk c.start ∧ 0 ≤ c.long ∧ c.long ≤ 10080
/-- May changes be. -/
def changesE (xs : List ChangeD) : Prop := (∀ c ∈ xs, changeOne c) ∧ rowE (xs.map (·.at_))

theorem row_ints {W : World} {B : Nat} {e : TypeId} {v : Value} {xs : List Int} (h : W.ownsRow B e 1 v xs.length (inC xs)) (hw : ∀ x ∈ xs, wfi .i64 x) : Row W 1 (rI .i64) v xs :=
  row_own (fun d => [.int .i64 d]) _ h fun x hx => ⟨rfl, rfl, hw x hx⟩
theorem atMap {xs : List ChangeD} {k : Nat} {x : ChangeD} (h : xs[k]? = some x) : (xs.map (·.at_)).take (k + 1) = (xs.map (·.at_)).take k ++ [x.at_] := by
  rw [List.take_add_one, List.getElem?_map, h]; rfl
theorem atMap_len (xs : List ChangeD) (k : Nat) (h : k ≤ xs.length) : ((xs.map (·.at_)).take k).length = k := by simp; omega

set_option maxHeartbeats 8000000 in
set_option maxRecDepth 100000 in
theorem changesE_any (v : Value) (xs : List ChangeD) (w : World) (h : Row w 3 rChange v xs) (hn : xs.length ≤ 10000) :
    Calls Tryz.prog 45 #[v] w fun e w' => e = .returned (.bool (dec (changesE xs))) ∧ Below w.heap.size w w' := by
  obtain ⟨i0, hi, hz0, hz1, hz2⟩ := info_parts info64
  obtain ⟨o, n, c, rfl, hl, -, -, R⟩ := h.open
  have S := Lib.hid R
  have L := Lib.hid hl
  have ST := Lib.hid (fun n W => stampE_any n W)
  have RW := Lib.hid (fun v xs W h hn => rowE_any v xs W h hn)
  have hnn : n ≤ 10000 := by omega
  clear h R hl hn
  go_enter Tryz.func45, Tryz.ntmps45
  go_wp2_with fail
  go_loopw [3, 8] (fun v b wr => ∃ k : Nat, k ≤ n ∧ b = .int .i64 (k : Nat) ∧ Hid (wr.ownsRow w.heap.size 2 1 v ((xs.map (·.at_)).take k).length (inC ((xs.map (·.at_)).take k))) ∧ Hid (Below w.heap.size w wr) ∧ Hid (∀ (i : Nat) x, i < k → xs[i]? = some x → changeOne x ∧ wfi .i64 x.at_)) (fun _ b _ => n - (intOf b).toNat)
  case atStart => exact ⟨0, Nat.zero_le _, rfl, Lib.hid (by rw [List.take_zero]; exact World.ownsRow_nil _ _ _ _), Lib.hid (Below.refl _ _), fun i x h => absurd h (Nat.not_lt_zero _)⟩
  case round =>
    obtain ⟨k, hk, rfl, HO, HB, I⟩ := hrel
    obtain ⟨wl, rfl⟩ : ∃ x, x = wr := ⟨_, rfl⟩
    by_cases hlt : k < n
    · have hlt' : (k : Int) < (n : Int) := by omega
      obtain ⟨x, a1, cs1, hx, rfl, q1, ⟨rfl, wfx, _, _⟩, q0, q2⟩ := S.out.elem HB.out k hlt
      have WX := Lib.hid wfx
      clear wfx
      have e0 := q0 (by decide)
      have e1 := q2 1 (by decide) (by decide)
      have e2 := q2 2 (by decide) (by decide)
      simp only [List.getElem?_cons_zero, List.getElem?_cons_succ] at e0 e1 e2
      have HX := Lib.hid hx
      clear q0 q1 q2 hx
      have HB2 := Lib.hid (fun (ob : Obj) => HB.out.alloc HB.out.size ob)
      by_cases hs : startOk x.start
      · have W1 := Lib.hid (fun W => c_t (ST.out x.start W) hs)
        by_cases h1 : x.long < 0
        · have d1 := decide_eq_true h1
          have HN := Lib.hid (show ¬ changesE xs from fun h => by have := (h.1 x (List.mem_of_getElem? HX.out)).2; omega)
          clear hs h1
          go_wp2_with (go_at_call 41; ((with_reducible refine (W1.out _).mono ?_); rintro e w1 ⟨rfl, hw2⟩; obtain rfl := hw2.symm))
          go_ret
          exact ⟨ret_f HN.out, HB2.out _⟩
        · have d1 := decide_eq_false h1
          by_cases h2 : 10080 < x.long
          · have d2 := decide_eq_true h2
            have HN := Lib.hid (show ¬ changesE xs from fun h => by have := (h.1 x (List.mem_of_getElem? HX.out)).2; omega)
            clear hs h1 h2
            go_wp2_with (go_at_call 41; ((with_reducible refine (W1.out _).mono ?_); rintro e w1 ⟨rfl, hw2⟩; obtain rfl := hw2.symm))
            go_ret
            exact ⟨ret_f HN.out, HB2.out _⟩
          · have d2 := decide_eq_false h2
            have J := Lib.hid (show ∀ (i : Nat) z, i < k + 1 → xs[i]? = some z → changeOne z ∧ wfi .i64 z.at_ from fun i z hi hz => by
              by_cases e : i = k
              · subst e; rw [HX.out] at hz; cases hz; exact ⟨⟨hs, by omega, by omega⟩, WX.out⟩
              · exact I.out i z (by omega) hz)
            have hkl := atMap_len xs k (by have := L.out; omega)
            have HT := Lib.hid (atMap HX.out)
            clear hs h1 h2
            go_wp2_with (first | (go_at_call 41; ((with_reducible refine (W1.out _).mono ?_); rintro e w1 ⟨rfl, hw2⟩; obtain rfl := hw2.symm)) | (at_builtin; refine wpList_append_own ((wl.alloc (.cells #[.int .i64 x.at_, .int .i64 x.start, .int .i64 x.long] 44)).alloc (.cells #[.int .i64 x.at_] 2)) rfl (.tmp 26) (.tmp 29) 29 rfl w.heap.size 2 i0 (.int .i64 0) 1 8 under64 hi hz0 hz1 hz2 rfl (by decide) u3 ((xs.map (·.at_)).take k).length (inC ((xs.map (·.at_)).take k)) rfl ((HO.out.alloc _).alloc _) ⟨wl.heap.size + 1, 0, none⟩ 1 1 [.int .i64 x.at_] rfl rfl ?c1 ?c2 ?c3 ?c4 ?c5 ?_))
            case c1 =>
              intro j u hj
              match j, hj with
              | 0, hj => simp at hj; subst hj; simp [Addr.add]
              | (_ + 1), hj => simp at hj
            case c2 => intro u hu; simp at hu; subst hu; rfl
            case c3 => unfold maxLen; omega
            case c4 => omega
            case c5 => have := HB.out.size; simp; omega
            intro v' w4 hown hgrow _
            have HB4 := Lib.hid (((HB.out.alloc HB.out.size (.cells #[.int .i64 x.at_, .int .i64 x.start, .int .i64 x.long] 44)).alloc (by have := HB.out.size; simp; omega) (.cells #[.int .i64 x.at_] 2)).grown hgrow (by have := HB.out.size; simp; omega) (fun j hj => (HO.out.lt j hj).1))
            have HO4 := Lib.hid (show w4.ownsRow w.heap.size 2 1 v' ((xs.map (·.at_)).take (k + 1)).length (inC ((xs.map (·.at_)).take (k + 1))) by
              rw [HT.out, inC_append, List.length_append, hkl]
              exact hown)
            clear hown hgrow
            go_wp2_with fail
            go_roundw
            case measure => simp [intOf]; omega
            case rel => exact ⟨k + 1, by omega, by go_num, HO4, HB4, J.out⟩
      · have W1 := Lib.hid (fun W => c_f (ST.out x.start W) hs)
        have HN := Lib.hid (show ¬ changesE xs from fun h => hs (h.1 x (List.mem_of_getElem? HX.out)).1)
        clear hs
        go_wp2_with (go_at_call 41; ((with_reducible refine (W1.out _).mono ?_); rintro e w1 ⟨rfl, hw2⟩; obtain rfl := hw2.symm))
        go_ret
        exact ⟨ret_f HN.out, HB2.out _⟩
    · obtain rfl : n = k := by omega
      have HALL := Lib.hid (show ∀ x ∈ xs, changeOne x ∧ wfi .i64 x.at_ from fun x hx => by
        obtain ⟨i, hi, rfl⟩ := List.getElem_of_mem hx
        exact I.out i _ (by have := L.out; omega) (List.getElem?_eq_getElem hi))
      have hfull : (xs.map (·.at_)).take n = xs.map (·.at_) := List.take_of_length_le (by simp [L.out])
      have HR := Lib.hid (show Row wl 1 (rI .i64) u3 (xs.map (·.at_)) from row_ints (by have := HO.out; rw [hfull] at this; exact this) (fun x hx => by
        obtain ⟨c, hc, rfl⟩ := List.mem_map.1 hx
        exact (HALL.out c hc).2))
      have C := Lib.hid (RW.out _ _ wl HR.out (by simp; have := L.out; omega))
      clear hfull
      go_wp2_with fail
      (with_reducible refine C.out.mono ?_)
      rintro e w1 ⟨rfl, hw2⟩
      obtain rfl := hw2.symm
      go_wp2_with fail
      go_ret
      refine ⟨?_, HB.out⟩
      by_cases hr : rowE (xs.map (·.at_))
      · rw [dec_t hr]; exact ret_t ⟨fun c hc => (HALL.out c hc).1, hr⟩
      · rw [dec_f hr]; exact ret_f fun h => hr h.2
end Go.Proofs.YtechgcjdigpglaaGreat
