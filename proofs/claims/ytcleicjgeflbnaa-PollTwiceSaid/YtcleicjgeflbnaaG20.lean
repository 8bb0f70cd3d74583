/- The walks of the search for a poll: cmp.Compare, the closure, BinarySearchFunc, place, Find. Conditions: the polls' numbers rise, and there are at most a hundred. -/
import Derived.Test.YtcleicjgeflbnaaG16
import Derived.Test.YtcleicjgeflbnaaG19
namespace Go.Proofs.Ytcleicjgeflbnaa
open Go.RowKit Go.ChangeShapes Go.WideShapes Go.Deep

def cmpI (x y : Int) : Int := if x < y then -1 else if y < x then 1 else 0

theorem compareU (x y : Int) (w : World) :
    Calls Try.prog 45 #[.int .u32 x, .int .u32 y] w fun e w' => e = .returned (.int .i64 (cmpI x y)) ∧ w' = w := by
  by_cases h1 : x < y
  · have d1 := decide_eq_true h1
    have R : cmpI x y = -1 := by simp [cmpI, h1]
    rw [R]; clear R
    go_enter Try.func45, Try.ntmps45
    go_wp2
    go_ret
    exact ⟨rfl, rfl⟩
  · have d1 := decide_eq_false h1
    by_cases h2 : y < x
    · have d2 := decide_eq_true h2
      have R : cmpI x y = 1 := by simp [cmpI, h1, h2]
      rw [R]; clear R
      go_enter Try.func45, Try.ntmps45
      go_wp2
      go_ret
      exact ⟨rfl, rfl⟩
    · have d2 := decide_eq_false h2
      have R : cmpI x y = 0 := by simp [cmpI, h1, h2]
      rw [R]; clear R
      go_enter Try.func45, Try.ntmps45
      go_wp2
      go_ret
      exact ⟨rfl, rfl⟩

theorem placeCmp (cs : List Value) (p : PollD) (id : Int) (w : World) (h : rPoll w cs p) :
    Calls Try.prog 53 #[.agg cs.toArray, .int .u32 id] w fun e w' => e = .returned (.int .i64 (cmpI p.id id)) ∧ Below w.heap.size w w' := by
  obtain ⟨qq, qs, qv, rfl, _, _, _, _, _, ⟨qm, qy, qa, qp, rfl, _, _, _, _, _, ⟨om, nm, cm, rfl, _⟩, ⟨oy, ny, cy, rfl, _⟩, ⟨oa, na, ca, rfl, _⟩, ⟨op, np, cp, rfl, _⟩⟩, ⟨os, ns', cs', rfl, _⟩, ⟨ov, nv, cv, rfl, _⟩⟩ := h
  simp only [List.cons_append, List.nil_append]
  have C := Lib.hid (fun (W : World) => compareU p.id id W)
  go_enter Try.func53, Try.ntmps53
  go_wp2_with fail
  (with_reducible refine (C.out _).mono ?_)
  rintro e w1 ⟨rfl, rfl⟩
  go_wp2_with fail
  go_ret
  exact ⟨rfl, (Below.refl _ _).alloc (Nat.le_refl _) _⟩

theorem rises_lt {α : Type} {f : α → Int} {xs : List α} (h : rises f xs) : ∀ (d i : Nat) (a b : α), xs[i]? = some a → xs[i + d + 1]? = some b → f a < f b
  | 0, i, a, b, ha, hb => h i a b ha hb
  | d + 1, i, a, b, ha, hb => by
    have hl := (List.getElem?_eq_some_iff.1 hb).1
    have hc : xs[i + d + 1]? = some (xs[i + d + 1]'(by omega)) := List.getElem?_eq_getElem (by omega)
    exact Int.lt_trans (rises_lt h d i a _ ha hc) (h (i + d + 1) _ b hc hb)
theorem rises_le {α : Type} {f : α → Int} {xs : List α} (h : rises f xs) {i j : Nat} (hij : i ≤ j) {a b : α} (ha : xs[i]? = some a) (hb : xs[j]? = some b) : f a ≤ f b := by
  by_cases e : i = j
  · subst e; rw [ha] at hb; cases hb; exact Int.le_refl _
  · have := rises_lt h (j - i - 1) i a b ha (by rw [show i + (j - i - 1) + 1 = j by omega]; exact hb)
    omega

/-- Where a number is among polls, or would be. -/
structure Place (xs : List PollD) (id : Int) (i : Nat) (f : Bool) : Prop where
  le : i ≤ xs.length
  lt : ∀ t p, t < i → xs[t]? = some p → p.id < id
  ge : ∀ t p, i ≤ t → xs[t]? = some p → id ≤ p.id
  is : f = dec (∃ p, xs[i]? = some p ∧ p.id = id)

set_option maxHeartbeats 8000000 in
theorem searchPolls (o : Option Addr) (n c : Nat) (xs : List PollD) (id : Int) (w : World) (h : Row w 16 (rPoll w) (.slice o n c) xs) (hr : rises (·.id) xs) (hn : n ≤ 100) :
    Calls Try.prog 52 #[.slice o n c, .int .u32 id, .func (.func 53) #[] #[]] w fun e w' => ∃ i f, e = .returned (.tuple #[.int .i64 (i : Nat), .bool f]) ∧ Place xs id i f ∧ Below w.heap.size w w' := by
  have S := Lib.hid h
  have L := Lib.hid h.len
  have HR := Lib.hid hr
  clear h hr
  have P0 := Lib.hid (show (∀ t p, t < 0 → xs[t]? = some p → p.id < id) ∧ (∀ t p, n ≤ t → xs[t]? = some p → id ≤ p.id) from ⟨fun t p ht => absurd ht (Nat.not_lt_zero _), fun t p ht hp => by have := (List.getElem?_eq_some_iff.1 hp).1; have := L.out; omega⟩)
  go_enter Try.func52, Try.ntmps52
  go_wp2_with fail
  go_loopw [9, 10] (fun a b wr => ∃ lo hi : Nat, a = .int .i64 lo ∧ b = .int .i64 hi ∧ lo ≤ hi ∧ hi ≤ n ∧ Below w.heap.size w wr ∧ Hid ((∀ t p, t < lo → xs[t]? = some p → p.id < id) ∧ (∀ t p, hi ≤ t → xs[t]? = some p → id ≤ p.id))) (fun a b _ => (intOf b).toNat - (intOf a).toNat)
  case atStart => exact ⟨0, n, rfl, rfl, Nat.zero_le _, Nat.le_refl _, Below.refl _ _, P0.out⟩
  case round =>
    obtain ⟨lo, hi, rfl, rfl, hlh, hin, hbw, I⟩ := hrel
    obtain ⟨wl, rfl⟩ : ∃ x, x = wr := ⟨_, rfl⟩
    have HB := Lib.hid hbw
    clear hbw
    by_cases hlt : lo < hi
    · have hlt' : (lo : Int) < (hi : Int) := by omega
      obtain ⟨y, a1, cs1, hx, rfl, q1, q3, q0, q2⟩ := S.out.elem HB.out ((lo + hi) / 2) (by omega)
      have SR := Lib.hid q3
      obtain ⟨qq, qs, qv, rfl, _, _, _, _, _, ⟨qm, qy, qa, qp, rfl, _, _, _, _, _, ⟨om, nm, cm, rfl, _⟩, ⟨oy, ny, cy, rfl, _⟩, ⟨oa, na, ca, rfl, _⟩, ⟨op, np, cp, rfl, _⟩⟩, ⟨os, ns', cs', rfl, _⟩, ⟨ov, nv, cv, rfl, _⟩⟩ := q3
      simp only [List.cons_append, List.nil_append] at q0 q2
      have e0 := q0 (by decide)
      have e1 := q2 1 (by decide) (by decide)
      have e2 := q2 2 (by decide) (by decide)
      have e3 := q2 3 (by decide) (by decide)
      have e4 := q2 4 (by decide) (by decide)
      have e5 := q2 5 (by decide) (by decide)
      have e6 := q2 6 (by decide) (by decide)
      have e7 := q2 7 (by decide) (by decide)
      have e8 := q2 8 (by decide) (by decide)
      have e9 := q2 9 (by decide) (by decide)
      have e10 := q2 10 (by decide) (by decide)
      have e11 := q2 11 (by decide) (by decide)
      have e12 := q2 12 (by decide) (by decide)
      have e13 := q2 13 (by decide) (by decide)
      have e14 := q2 14 (by decide) (by decide)
      have e15 := q2 15 (by decide) (by decide)
      simp only [List.getElem?_cons_zero, List.getElem?_cons_succ] at e0 e1 e2 e3 e4 e5 e6 e7 e8 e9 e10 e11 e12 e13 e14 e15
      have Hx := Lib.hid hx
      have C := Lib.hid (fun (W : World) (hb : Below w.heap.size w W) => placeCmp _ y id W (SR.out.later hb))
      simp only [List.cons_append, List.nil_append] at C
      clear q0 q1 q2 hx
      by_cases hyx : y.id < id
      · have hr1 : cmpI y.id id = -1 := by simp [cmpI, hyx]
        rw [hr1] at C
        clear hr1
        go_wp2_with fail
        (with_reducible refine (C.out _ HB.out).mono ?_)
        rintro e w1 ⟨rfl, hb1⟩
        have HB2 := Lib.hid (below_call HB.out hb1)
        have I2 := Lib.hid (show (∀ t p, t < (lo + hi) / 2 + 1 → xs[t]? = some p → p.id < id) ∧ (∀ t p, hi ≤ t → xs[t]? = some p → id ≤ p.id) from ⟨fun t p ht hp => Int.lt_of_le_of_lt (rises_le HR.out (show t ≤ (lo + hi) / 2 by omega) hp Hx.out) hyx, I.out.2⟩)
        clear hb1 e0 e1 e2 e3 e4 e5 e6 e7 e8 e9 e10 e11 e12 e13 e14 e15
        go_wp2_with fail
        go_roundw
        case measure => simp [intOf]; omega
        case rel => exact ⟨(lo + hi) / 2 + 1, hi, by go_num, rfl, by omega, hin, HB2.out, I2.out⟩
      · have ⟨r, hr0, hr1⟩ : ∃ r : Int, ¬ r < 0 ∧ cmpI y.id id = r := ⟨_, by unfold cmpI; rw [if_neg hyx]; split <;> omega, rfl⟩
        rw [hr1] at C
        have dr := decide_eq_false hr0
        clear hr1
        go_wp2_with fail
        (with_reducible refine (C.out _ HB.out).mono ?_)
        rintro e w1 ⟨rfl, hb1⟩
        have HB2 := Lib.hid (below_call HB.out hb1)
        have I2 := Lib.hid (show (∀ t p, t < lo → xs[t]? = some p → p.id < id) ∧ (∀ t p, (lo + hi) / 2 ≤ t → xs[t]? = some p → id ≤ p.id) from ⟨I.out.1, fun t p ht hp => by have := rises_le HR.out ht Hx.out hp; omega⟩)
        clear hb1 e0 e1 e2 e3 e4 e5 e6 e7 e8 e9 e10 e11 e12 e13 e14 e15
        go_wp2_with fail
        go_roundw
        case measure => simp [intOf]; omega
        case rel => exact ⟨lo, (lo + hi) / 2, rfl, by go_num, by omega, by omega, HB2.out, I2.out⟩
    · obtain rfl : hi = lo := by omega
      clear hlt hlh
      by_cases hn2 : hi < n
      · have hn2' : (hi : Int) < (n : Int) := by omega
        have dn := decide_eq_true hn2'
        obtain ⟨y, a1, cs1, hx, rfl, q1, q3, q0, q2⟩ := S.out.elem HB.out hi hn2
        have SR := Lib.hid q3
        obtain ⟨qq, qs, qv, rfl, _, _, _, _, _, ⟨qm, qy, qa, qp, rfl, _, _, _, _, _, ⟨om, nm, cm, rfl, _⟩, ⟨oy, ny, cy, rfl, _⟩, ⟨oa, na, ca, rfl, _⟩, ⟨op, np, cp, rfl, _⟩⟩, ⟨os, ns', cs', rfl, _⟩, ⟨ov, nv, cv, rfl, _⟩⟩ := q3
        simp only [List.cons_append, List.nil_append] at q0 q2
        have e0 := q0 (by decide)
        have e1 := q2 1 (by decide) (by decide)
        have e2 := q2 2 (by decide) (by decide)
        have e3 := q2 3 (by decide) (by decide)
        have e4 := q2 4 (by decide) (by decide)
        have e5 := q2 5 (by decide) (by decide)
        have e6 := q2 6 (by decide) (by decide)
        have e7 := q2 7 (by decide) (by decide)
        have e8 := q2 8 (by decide) (by decide)
        have e9 := q2 9 (by decide) (by decide)
        have e10 := q2 10 (by decide) (by decide)
        have e11 := q2 11 (by decide) (by decide)
        have e12 := q2 12 (by decide) (by decide)
        have e13 := q2 13 (by decide) (by decide)
        have e14 := q2 14 (by decide) (by decide)
        have e15 := q2 15 (by decide) (by decide)
        simp only [List.getElem?_cons_zero, List.getElem?_cons_succ] at e0 e1 e2 e3 e4 e5 e6 e7 e8 e9 e10 e11 e12 e13 e14 e15
        have Hx := Lib.hid hx
        have C := Lib.hid (fun (W : World) (hb : Below w.heap.size w W) => placeCmp _ y id W (SR.out.later hb))
        simp only [List.cons_append, List.nil_append] at C
        clear q0 q1 q2 hx
        by_cases hy : y.id = id
        · have hr1 : cmpI y.id id = 0 := by simp [cmpI, hy]
          rw [hr1] at C
          have HY := Lib.hid hy
          clear hr1 hy
          go_wp2_with fail
          (with_reducible refine (C.out _ HB.out).mono ?_)
          rintro e w1 ⟨rfl, hb1⟩
          have HB2 := Lib.hid (below_call HB.out hb1)
          have R := Lib.hid (show Place xs id hi true from ⟨by have := L.out; omega, I.out.1, I.out.2, (dec_t ⟨y, Hx.out, HY.out⟩).symm⟩)
          clear hb1 e0 e1 e2 e3 e4 e5 e6 e7 e8 e9 e10 e11 e12 e13 e14 e15
          go_wp2_with fail
          go_ret2
          exact ⟨hi, true, rfl, R.out, HB2.out⟩
        · have hlt2 : id < y.id := by have := I.out.2 hi y (Nat.le_refl _) Hx.out; omega
          have hr1 : cmpI y.id id = 1 := by simp [cmpI, show ¬ y.id < id by omega, hlt2]
          rw [hr1] at C
          clear hr1
          go_wp2_with fail
          (with_reducible refine (C.out _ HB.out).mono ?_)
          rintro e w1 ⟨rfl, hb1⟩
          have HB2 := Lib.hid (below_call HB.out hb1)
          have R := Lib.hid (show Place xs id hi false from ⟨by have := L.out; omega, I.out.1, I.out.2, (dec_f (fun ⟨p, hp, e⟩ => hy (by rw [Hx.out] at hp; cases hp; exact e))).symm⟩)
          clear hb1 e0 e1 e2 e3 e4 e5 e6 e7 e8 e9 e10 e11 e12 e13 e14 e15
          go_wp2_with fail
          go_ret2
          exact ⟨hi, false, rfl, R.out, HB2.out⟩
      · obtain rfl : n = hi := by omega
        have R := Lib.hid (show Place xs id n false from ⟨by have := L.out; omega, I.out.1, I.out.2, (dec_f (fun ⟨p, hp, e⟩ => by have := (List.getElem?_eq_some_iff.1 hp).1; have := L.out; omega)).symm⟩)
        go_wp2_with fail
        go_ret2
        exact ⟨n, false, rfl, R.out, HB.out⟩

theorem place_any (cs : List Value) (x : StateD) (id : Int) (w : World) (h : rState w cs x) (hr : rises (·.id) x.polls) (hn : x.polls.length ≤ 100) :
    Calls Try.prog 41 #[.agg cs.toArray, .int .u32 id] w fun e w' => ∃ i f, e = .returned (.tuple #[.int .i64 (i : Nat), .bool f]) ∧ Place x.polls id i f ∧ Below w.heap.size w w' := by
  obtain ⟨u, p, d, rfl, _, hu, hp, hd⟩ := h
  obtain ⟨o1, n1, c1, rfl, _⟩ := hu
  obtain ⟨o2, n2, c2, rfl, l2, _, _, R2⟩ := hp.open
  obtain ⟨o3, n3, c3, rfl, _⟩ := hd
  have HB := Lib.hid (show Below w.heap.size w (w.alloc (.cells #[.int .i64 x.clock, .slice o1 n1 c1, .slice o2 n2 c2, .slice o3 n3 c3] 26)) from (Below.refl _ _).alloc (Nat.le_refl _) _)
  have S2 := Lib.hid R2; have HR := Lib.hid hr
  have C := Lib.hid (fun (W : World) (hb : Below w.heap.size w W) => searchPolls o2 n2 c2 x.polls id W (S2.out.later hb fun _ _ => rPoll.later hb) HR.out (by omega))
  clear hp hr R2
  go_enter Try.func41, Try.ntmps41
  go_wp2_with fail
  (with_reducible refine (C.out _ HB.out).mono ?_)
  rintro e w1 ⟨i, f, rfl, hpl, hb1⟩
  have HB2 := Lib.hid (below_call HB.out hb1)
  have HP := Lib.hid hpl
  clear hb1 hpl
  go_wp2_with fail
  go_ret2
  exact ⟨i, f, rfl, HP.out, HB2.out⟩
end Go.Proofs.Ytcleicjgeflbnaa
