/- The walks of zone: wide, in, behind, added. Conditions: each theorem's own. zone.added. Condition: so many turns are there. zone.May: the walk. Condition: there are at most a thousand turns. zone.from, gap and Utc: the walks. Conditions: the zone may be, the local time is no monster. zone.gap: the walk. Conditions: the zone may be, the local time is no monster. zone.Utc: the walk. Conditions: there are at most a thousand turns. -/
import Derived.Test.YtechgcjdigpglaaGreatV15
import Derived.Test.YtechgcjdigpglaaGreatX3
import Derived.Test.YtechgcjdigpglaaGreatZ1
import Derived.Deep.QuietTactic
import Derived.BigQuiet
import Derived.Deep.RegionHeld3
import Derived.Deep.DrawnRows
import Derived.Deep.Cut
namespace Go.Proofs.YtechgcjdigpglaaGreat
open Go.RowKit Go.ChangeShapes Go.WideShapes Go.Deep
set_option linter.all false

def rZone (w : World) (cs : List Value) (z : ZoneD) : Prop := ∃ t, cs = [.int .i64 z.base, t] ∧ wfi .i64 z.base ∧ Row w 2 rTurn t z.turns
theorem rZone.later {w w' : World} (hb : Below w.heap.size w w') {cs : List Value} {z : ZoneD} : rZone w cs z → rZone w' cs z
  | ⟨t, a, b, c⟩ => ⟨t, a, b, c.later' hb⟩

theorem wide_any (n : Int) (w : World) : Calls Tryz.prog 87 #[.int .i64 n] w fun e w' => e = .returned (.bool (dec (n < -900 ∨ 900 < n))) ∧ w' = w := by
  by_cases h1 : n < -900
  · have d1 := decide_eq_true h1
    rw [dec_t (.inl h1)]
    go_enter Tryz.func87, Tryz.ntmps87
    go_wp2
    go_ret
    exact ⟨rfl, rfl⟩
  · have d1 := decide_eq_false h1
    by_cases h2 : 900 < n
    · have d2 := decide_eq_true h2
      rw [dec_t (.inr h2)]
      go_enter Tryz.func87, Tryz.ntmps87
      go_wp2
      go_ret
      exact ⟨rfl, rfl⟩
    · have d2 := decide_eq_false h2
      rw [dec_f (fun h => h.elim h1 h2)]
      go_enter Tryz.func87, Tryz.ntmps87
      go_wp2
      go_ret
      exact ⟨rfl, rfl⟩
theorem zin_any (n : Int) (w : World) : Calls Tryz.prog 138 #[.int .i64 n] w fun e w' => e = .returned (.bool (dec (0 ≤ n ∧ n ≤ 158310720))) ∧ w' = w := by
  by_cases h1 : 0 ≤ n
  · have d1 := decide_eq_true h1
    by_cases h2 : n ≤ 158310720
    · have d2 := decide_eq_true h2
      rw [dec_t ⟨h1, h2⟩]
      go_enter Tryz.func138, Tryz.ntmps138
      go_wp2
      go_ret
      exact ⟨rfl, rfl⟩
    · have d2 := decide_eq_false h2
      rw [dec_f (fun h => h2 h.2)]
      go_enter Tryz.func138, Tryz.ntmps138
      go_wp2
      go_ret
      exact ⟨rfl, rfl⟩
  · have d1 := decide_eq_false h1
    rw [dec_f (fun h => h1 h.1)]
    go_enter Tryz.func138, Tryz.ntmps138
    go_wp2
    go_ret
    exact ⟨rfl, rfl⟩

def cmpI (x y : Int) : Int := if x < y then -1 else if y < x then 1 else 0

theorem compareL (x y : Int) (w : World) :
    Calls Tryz.prog 56 #[.int .i64 x, .int .i64 y] w fun e w' => e = .returned (.int .i64 (cmpI x y)) ∧ w' = w := by
  by_cases h1 : x < y
  · have d1 := decide_eq_true h1
    have R : cmpI x y = -1 := by simp [cmpI, h1]
    rw [R]; clear R
    go_enter Tryz.func56, Tryz.ntmps56
    go_wp2
    go_ret
    exact ⟨rfl, rfl⟩
  · have d1 := decide_eq_false h1
    by_cases h2 : y < x
    · have d2 := decide_eq_true h2
      have R : cmpI x y = 1 := by simp [cmpI, h1, h2]
      rw [R]; clear R
      go_enter Tryz.func56, Tryz.ntmps56
      go_wp2
      go_ret
      exact ⟨rfl, rfl⟩
    · have d2 := decide_eq_false h2
      have R : cmpI x y = 0 := by simp [cmpI, h1, h2]
      rw [R]; clear R
      go_enter Tryz.func56, Tryz.ntmps56
      go_wp2
      go_ret
      exact ⟨rfl, rfl⟩


theorem turnCmp (t : TurnD) (id : Int) (w : World) :
    Calls Tryz.prog 186 #[.agg #[.int .i64 t.at_, .int .i64 t.off], .int .i64 id] w fun e w' => e = .returned (.int .i64 (cmpI t.at_ id)) ∧ Below w.heap.size w w' := by
  have C := Lib.hid (fun (W : World) => compareL t.at_ id W)
  go_enter Tryz.func186, Tryz.ntmps186
  go_wp2_with fail
  (with_reducible refine (C.out _).mono ?_)
  rintro e w1 ⟨rfl, rfl⟩
  go_wp2_with fail
  go_ret
  exact ⟨rfl, (Below.refl _ _).alloc (Nat.le_refl _) _⟩

/-- Where a minute is among turns, or would be. -/
structure PlaceT (xs : List TurnD) (id : Int) (i : Nat) (f : Bool) : Prop where
  le : i ≤ xs.length
  lt : ∀ t p, t < i → xs[t]? = some p → p.at_ < id
  ge : ∀ t p, i ≤ t → xs[t]? = some p → id ≤ p.at_
  is : f = dec (∃ p, xs[i]? = some p ∧ p.at_ = id)

set_option maxHeartbeats 8000000 in
theorem searchTurns (o : Option Addr) (n c : Nat) (xs : List TurnD) (id : Int) (w : World) (h : Row w 2 rTurn (.slice o n c) xs) (hr : risesF (·.at_) xs) (hn : n ≤ 1000) :
    Calls Tryz.prog 185 #[.slice o n c, .int .i64 id, .func (.func 186) #[] #[]] w fun e w' => ∃ i f, e = .returned (.tuple #[.int .i64 (i : Nat), .bool f]) ∧ PlaceT xs id i f ∧ Below w.heap.size w w' := by
  have S := Lib.hid h
  have L := Lib.hid h.len
  have HR := Lib.hid hr
  clear h hr
  have P0 := Lib.hid (show (∀ t p, t < 0 → xs[t]? = some p → p.at_ < id) ∧ (∀ t p, n ≤ t → xs[t]? = some p → id ≤ p.at_) from ⟨fun t p ht => absurd ht (Nat.not_lt_zero _), fun t p ht hp => by have := (List.getElem?_eq_some_iff.1 hp).1; have := L.out; omega⟩)
  go_enter Tryz.func185, Tryz.ntmps185
  go_wp2_with fail
  go_loopw [9, 10] (fun a b wr => ∃ lo hi : Nat, a = .int .i64 lo ∧ b = .int .i64 hi ∧ lo ≤ hi ∧ hi ≤ n ∧ Below w.heap.size w wr ∧ Hid ((∀ t p, t < lo → xs[t]? = some p → p.at_ < id) ∧ (∀ t p, hi ≤ t → xs[t]? = some p → id ≤ p.at_))) (fun a b _ => (intOf b).toNat - (intOf a).toNat)
  case atStart => exact ⟨0, n, rfl, rfl, Nat.zero_le _, Nat.le_refl _, Below.refl _ _, P0.out⟩
  case round =>
    obtain ⟨lo, hi, rfl, rfl, hlh, hin, hbw, I⟩ := hrel
    obtain ⟨wl, rfl⟩ : ∃ x, x = wr := ⟨_, rfl⟩
    have HB := Lib.hid hbw
    clear hbw
    by_cases hlt : lo < hi
    · have hlt' : (lo : Int) < (hi : Int) := by omega
      obtain ⟨y, a1, cs1, hx, rfl, q1, q3, q0, q2⟩ := S.out.elem HB.out ((lo + hi) / 2) (by omega)
      obtain ⟨rfl, _, _⟩ := q3
      have e0 := q0 (by decide)
      have e1 := q2 1 (by decide) (by decide)
      simp only [List.getElem?_cons_zero, List.getElem?_cons_succ] at e0 e1
      have Hx := Lib.hid hx
      have C := Lib.hid (fun (W : World) (hb : Below w.heap.size w W) => turnCmp y id W)
      clear q0 q1 q2 hx
      by_cases hyx : y.at_ < id
      · have hr1 : cmpI y.at_ id = -1 := by simp [cmpI, hyx]
        rw [hr1] at C
        clear hr1
        go_wp2_with fail
        (with_reducible refine (C.out _ HB.out).mono ?_)
        rintro e w1 ⟨rfl, hb1⟩
        have HB2 := Lib.hid (below_call HB.out hb1)
        have I2 := Lib.hid (show (∀ t p, t < (lo + hi) / 2 + 1 → xs[t]? = some p → p.at_ < id) ∧ (∀ t p, hi ≤ t → xs[t]? = some p → id ≤ p.at_) from ⟨fun t p ht hp => Int.lt_of_le_of_lt (rises_le HR.out (show t ≤ (lo + hi) / 2 by omega) hp Hx.out) hyx, I.out.2⟩)
        clear hb1 e0 e1
        go_wp2_with fail
        go_roundw
        case measure => simp [intOf]; omega
        case rel => exact ⟨(lo + hi) / 2 + 1, hi, by go_num, rfl, by omega, hin, HB2.out, I2.out⟩
      · have ⟨r, hr0, hr1⟩ : ∃ r : Int, ¬ r < 0 ∧ cmpI y.at_ id = r := ⟨_, by unfold cmpI; rw [if_neg hyx]; split <;> omega, rfl⟩
        rw [hr1] at C
        have dr := decide_eq_false hr0
        clear hr1
        go_wp2_with fail
        (with_reducible refine (C.out _ HB.out).mono ?_)
        rintro e w1 ⟨rfl, hb1⟩
        have HB2 := Lib.hid (below_call HB.out hb1)
        have I2 := Lib.hid (show (∀ t p, t < lo → xs[t]? = some p → p.at_ < id) ∧ (∀ t p, (lo + hi) / 2 ≤ t → xs[t]? = some p → id ≤ p.at_) from ⟨I.out.1, fun t p ht hp => by have := rises_le HR.out ht Hx.out hp; omega⟩)
        clear hb1 e0 e1
        go_wp2_with fail
        go_roundw
        case measure => simp [intOf]; omega
        case rel => exact ⟨lo, (lo + hi) / 2, rfl, by go_num, by omega, by omega, HB2.out, I2.out⟩
    · obtain rfl : hi = lo := by omega
      clear hlt hlh
      by_cases hn2 : hi < n
      · have hn2' : (hi : Int) < (n : Int) := by omega
        have dn := decide_eq_true hn2'
        obtain ⟨y, a1, cs1, hx, rfl, q1, q3, q0, q2⟩ := S.out.elem HB.out hi hn2
        obtain ⟨rfl, _, _⟩ := q3
        have e0 := q0 (by decide)
        have e1 := q2 1 (by decide) (by decide)
        simp only [List.getElem?_cons_zero, List.getElem?_cons_succ] at e0 e1
        have Hx := Lib.hid hx
        have C := Lib.hid (fun (W : World) (hb : Below w.heap.size w W) => turnCmp y id W)
        clear q0 q1 q2 hx
        by_cases hy : y.at_ = id
        · have hr1 : cmpI y.at_ id = 0 := by simp [cmpI, hy]
          rw [hr1] at C
          have HY := Lib.hid hy
          clear hr1 hy
          go_wp2_with fail
          (with_reducible refine (C.out _ HB.out).mono ?_)
          rintro e w1 ⟨rfl, hb1⟩
          have HB2 := Lib.hid (below_call HB.out hb1)
          have R := Lib.hid (show PlaceT xs id hi true from ⟨by have := L.out; omega, I.out.1, I.out.2, (dec_t ⟨y, Hx.out, HY.out⟩).symm⟩)
          clear hb1 e0 e1
          go_wp2_with fail
          go_ret2
          exact ⟨hi, true, rfl, R.out, HB2.out⟩
        · have hlt2 : id < y.at_ := by have := I.out.2 hi y (Nat.le_refl _) Hx.out; omega
          have hr1 : cmpI y.at_ id = 1 := by simp [cmpI, show ¬ y.at_ < id by omega, hlt2]
          rw [hr1] at C
          clear hr1
          go_wp2_with fail
          (with_reducible refine (C.out _ HB.out).mono ?_)
          rintro e w1 ⟨rfl, hb1⟩
          have HB2 := Lib.hid (below_call HB.out hb1)
          have R := Lib.hid (show PlaceT xs id hi false from ⟨by have := L.out; omega, I.out.1, I.out.2, (dec_f (fun ⟨p, hp, e⟩ => hy (by rw [Hx.out] at hp; cases hp; exact e))).symm⟩)
          clear hb1 e0 e1
          go_wp2_with fail
          go_ret2
          exact ⟨hi, false, rfl, R.out, HB2.out⟩
      · obtain rfl : n = hi := by omega
        have R := Lib.hid (show PlaceT xs id n false from ⟨by have := L.out; omega, I.out.1, I.out.2, (dec_f (fun ⟨p, hp, e⟩ => by have := (List.getElem?_eq_some_iff.1 hp).1; have := L.out; omega)).symm⟩)
        go_wp2_with fail
        go_ret2
        exact ⟨n, false, rfl, R.out, HB.out⟩


theorem place_count {xs : List TurnD} {u : Int} {i : Nat} {f : Bool} (h : PlaceT xs u i f) (hr : risesF (·.at_) xs) : (if f = true then i + 1 else i) = behindZ xs u := by
  unfold behindZ
  have hi := h.is
  cases f with
  | true =>
    obtain ⟨p, hp, he⟩ := dec_iff.1 hi.symm
    rw [if_pos rfl, count_split _ xs (i + 1) (by have := (List.getElem?_eq_some_iff.1 hp).1; omega)]
    · intro t x ht hx
      by_cases e : t = i
      · subst e; rw [hp] at hx; cases hx; simp; omega
      · have := h.lt t x (by omega) hx; simp; omega
    · intro t x ht hx
      have := rises_lt hr (t - i - 1) i p x hp (by rw [show i + (t - i - 1) + 1 = t by omega]; exact hx)
      simp; omega
  | false =>
    have hno : ¬ ∃ p, xs[i]? = some p ∧ p.at_ = u := fun e => by rw [dec_t e] at hi; cases hi
    rw [if_neg (by decide), count_split _ xs i h.le]
    · intro t x ht hx
      have := h.lt t x ht hx; simp; omega
    · intro t x ht hx
      have h1 := h.ge t x ht hx
      by_cases e : t = i
      · subst e
        have : x.at_ ≠ u := fun e => hno ⟨x, hx, e⟩
        simp; omega
      · have hlt : i < xs.length := by have := (List.getElem?_eq_some_iff.1 hx).1; omega
        have h2 := rises_lt hr (t - i - 1) i _ x (List.getElem?_eq_getElem hlt) (by rw [show i + (t - i - 1) + 1 = t by omega]; exact hx)
        have h3 := h.ge i _ (Nat.le_refl _) (List.getElem?_eq_getElem hlt)
        simp; omega

set_option maxHeartbeats 4000000 in
theorem behind_any (cs : List Value) (z : ZoneD) (u : Int) (w : World) (h : rZone w cs z) (hr : risesF (·.at_) z.turns) (hn : z.turns.length ≤ 1000) :
    Calls Tryz.prog 135 #[.agg cs.toArray, .int .i64 u] w fun e w' => e = .returned (.int .i64 (behindZ z.turns u : Nat)) ∧ Below w.heap.size w w' := by
  obtain ⟨t, rfl, _, ht⟩ := h
  obtain ⟨o, n, c, rfl, hl, _, _, RT⟩ := ht.open
  have HR := Lib.hid hr
  have C := Lib.hid (fun (W : World) (hb : Below w.heap.size w W) => searchTurns o n c z.turns u W (RT.later' hb) HR.out (by omega))
  have HB := Lib.hid (show Below w.heap.size w (w.alloc (.cells #[.int .i64 z.base, .slice o n c] 24)) from belowA _ (Below.refl _ _))
  have hn' : n ≤ 1000 := by omega
  have HL := Lib.hid hl
  clear ht RT hr hn hl
  go_enter Tryz.func135, Tryz.ntmps135
  go_wp2_with fail
  (with_reducible refine (C.out _ HB.out).mono ?_)
  rintro e w1 ⟨i, f, rfl, hp, hb⟩
  have hcount := place_count hp HR.out
  have HW := Lib.hid (HB.out.trans (hb.mono HB.out.size))
  have hi : i ≤ 1000 := by have := hp.le; have := HL.out; omega
  clear hp hb
  cases f with
  | true =>
    rw [if_pos rfl] at hcount
    have HC := Lib.hid hcount
    have hw : wrap64 ((i : Int) + 1) = (i : Int) + 1 := by unfold wrap64; omega
    clear hcount
    go_wp2_with fail
    go_ret
    exact ⟨ret_i (by rw [← HC.out]; rfl), HW.out⟩
  | false =>
    rw [if_neg (by decide)] at hcount
    have HC := Lib.hid hcount
    clear hcount
    go_wp2_with fail
    go_ret
    exact ⟨ret_i (by rw [← HC.out]), HW.out⟩

end Go.Proofs.YtechgcjdigpglaaGreat
namespace Go.Proofs.YtechgcjdigpglaaGreat
open Go.RowKit Go.ChangeShapes Go.WideShapes Go.Deep
set_option linter.all false

set_option maxHeartbeats 4000000 in
theorem added_any (cs : List Value) (z : ZoneD) (k : Nat) (w : World) (h : rZone w cs z) (hk : k ≤ z.turns.length) (hn : z.turns.length ≤ 1000) :
    Calls Tryz.prog 171 #[.agg cs.toArray, .int .i64 (k : Nat)] w fun e w' => e = .returned (.int .i64 (addedZ z k)) ∧ Below w.heap.size w w' := by
  obtain ⟨t, rfl, _, ht⟩ := h
  obtain ⟨o, n, c, rfl, hl, _, _, RT⟩ := ht.open
  have HB := Lib.hid (show Below w.heap.size w (w.alloc (.cells #[.int .i64 z.base, .slice o n c] 24)) from belowA _ (Below.refl _ _))
  by_cases h0 : k = 0
  · have b0 : ((k : Int) == 0) = true := by simp [h0]
    have e : addedZ z k = z.base := by unfold addedZ; rw [if_pos h0]
    rw [e]
    clear e h0 ht RT
    go_enter Tryz.func171, Tryz.ntmps171
    go_wp2_with fail
    go_ret
    exact ⟨rfl, HB.out⟩
  · obtain ⟨j, rfl⟩ : ∃ j, k = j + 1 := ⟨k - 1, by omega⟩
    have b0 : (((j + 1 : Nat) : Int) == 0) = false := by simp; omega
    have b1 : ((j : Int) + 1 == 0) = false := by simp; omega
    obtain ⟨x, a1, cs1, hx, rfl, q1, ⟨rfl, _, _⟩, q0, q2⟩ := RT.elem HB.out j (by omega)
    have e0 := q0 (by decide)
    have e1 := q2 1 (by decide) (by decide)
    simp only [List.getElem?_cons_zero, List.getElem?_cons_succ] at e0 e1
    have e : addedZ z (j + 1) = x.off := by unfold addedZ; rw [if_neg h0, show j + 1 - 1 = j from rfl, hx]; rfl
    rw [e]
    have hjn : (j : Int) < (n : Int) := by omega
    have hj0 : (0 : Int) ≤ (j : Int) := by omega
    have hw : wrap64 ((j : Int) + 1 - 1) = (j : Int) := by unfold wrap64; omega
    have hw2 : wrap64 (((j + 1 : Nat) : Int) - 1) = (j : Int) := by unfold wrap64; omega
    have hw3 : IntKind.i64.wrap ((j : Int) + 1 - 1) = (j : Int) := by rw [IntKind.wrap_i64]; omega
    have hw4 : wrap64 (j : Int) = (j : Int) := by unfold wrap64; omega
    clear e hx q0 q1 q2 ht RT h0
    go_enter Tryz.func171, Tryz.ntmps171
    go_wp2_with fail
    go_ret
    exact ⟨rfl, HB.out⟩
end Go.Proofs.YtechgcjdigpglaaGreat
namespace Go.Proofs.YtechgcjdigpglaaGreat
open Go.RowKit Go.ChangeShapes Go.WideShapes Go.Deep
set_option linter.all false

set_option maxRecDepth 100000 in
set_option maxHeartbeats 8000000 in
theorem zMay_any (cs : List Value) (z : ZoneD) (w : World) (h : rZone w cs z) (hn : z.turns.length ≤ 1000) :
    Calls Tryz.prog 50 #[.agg cs.toArray] w fun e w' => e = .returned (.bool (dec (mayZ z))) ∧ Below w.heap.size w w' := by
  obtain ⟨t, rfl, _, ht⟩ := h
  obtain ⟨o, n, c, rfl, hl, _, _, RT⟩ := ht.open
  have WD := Lib.hid (fun n W => wide_any n W)
  have HB := Lib.hid (show Below w.heap.size w (w.alloc (.cells #[.int .i64 z.base, .slice o n c] 24)) from belowA _ (Below.refl _ _))
  have HR := Lib.hid RT
  have HL := Lib.hid hl
  have hn1 : n ≤ 1000 := by omega
  clear ht RT hn
  by_cases hb : z.base < -900 ∨ 900 < z.base
  · have W1 := Lib.hid (fun W => c_t (WD.out z.base W) hb)
    have hno := Lib.hid (show ¬ mayZ z from fun h => by obtain ⟨h1, h2, _⟩ := h; omega)
    clear hb hl
    go_enter Tryz.func50, Tryz.ntmps50
    go_wp2_with (go_at_call 87; ((with_reducible refine (W1.out _).mono ?_); rintro e w1 ⟨rfl, rfl⟩))
    go_ret
    exact ⟨ret_f hno.out, HB.out⟩
  · have W1 := Lib.hid (fun W => c_f (WD.out z.base W) hb)
    by_cases h7 : 700 < n
    · have h7' : (700 : Int) < (n : Int) := by omega
      have hno := Lib.hid (show ¬ mayZ z from fun h => by obtain ⟨_, _, h3, _⟩ := h; omega)
      clear hb hl h7
      go_enter Tryz.func50, Tryz.ntmps50
      go_wp2_with (go_at_call 87; ((with_reducible refine (W1.out _).mono ?_); rintro e w1 ⟨rfl, rfl⟩))
      go_ret
      exact ⟨ret_f hno.out, HB.out⟩
    · have h7' : ¬ (700 : Int) < (n : Int) := by omega
      have HBASE := Lib.hid hb
      clear hb hl
      go_enter Tryz.func50, Tryz.ntmps50
      go_wp2_with (go_at_call 87; ((with_reducible refine (W1.out _).mono ?_); rintro e w1 ⟨rfl, rfl⟩))
      go_loopw [17] (fun i wr => ∃ k : Nat, k ≤ n ∧ i = .int .i64 (k : Nat) ∧ Hid (Below w.heap.size w wr) ∧ Hid (BxAt w.heap.size #[.int .i64 z.base, .slice o n c] wr) ∧ Hid (∀ (i : Nat) t, i < k → z.turns[i]? = some t → turnOne t) ∧ Hid (gapTo z.turns k)) (fun i _ => n - (intOf i).toNat)
      case atStart => exact ⟨0, Nat.zero_le _, rfl, HB, Lib.hid (BxAt.new w _ 24), fun i t h => absurd h (Nat.not_lt_zero _), fun i a b h => absurd h (by omega)⟩
      case round =>
        obtain ⟨k, hkn, rfl, HW, HX, I1, I2⟩ := hrel
        obtain ⟨wl, rfl⟩ : ∃ x, x = wr := ⟨_, rfl⟩
        have kA := HX.out.cell
        by_cases hlt : k < n
        · have hlt' : (k : Int) < (n : Int) := by omega
          obtain ⟨x, a1, cs1, hx, rfl, q1, ⟨rfl, wfx, _⟩, q0, q2⟩ := HR.out.elem HW.out k hlt
          have hwx : x.at_ ≤ 9223372036854775807 := wfx.2
          clear wfx
          have e0 := q0 (by decide)
          have e1 := q2 1 (by decide) (by decide)
          simp only [List.getElem?_cons_zero, List.getElem?_cons_succ] at e0 e1
          have hnf : w.heap.size < wl.heap.size := HX.out.lt
          have HXX := Lib.hid hx
          have HB2 := Lib.hid (fun (ob : Obj) => HW.out.alloc HW.out.size ob)
          have HX2 := Lib.hid (HX.out.below (belowA (.cells #[.int .i64 x.at_, .int .i64 x.off] 95) (Below.refl wl.heap.size wl)))
          have ha1 : (a1.add (k * 2)).block < wl.heap.size := World.block_lt_of_cell? _ _ e0
          clear q0 q1 q2 hx
          have HONE := Lib.hid (fun h : mayZ z => show turnOne x from h.2.2.2.1 x (List.mem_of_getElem? HXX.out))
          have J1 := Lib.hid (fun hx : turnOne x => show ∀ (i : Nat) t, i < k + 1 → z.turns[i]? = some t → turnOne t from fun i t hi ht => by
            by_cases e : i = k
            · subst e; rw [HXX.out] at ht; cases ht; exact hx
            · exact I1.out i t (by omega) ht)
          by_cases hk0 : k = 0
          · have HK := Lib.hid hk0
            have d4 : ¬ (0 : Int) < (k : Int) := by omega
            have d5 : ¬ 0 < k := by omega
            have J2 := Lib.hid (show gapTo z.turns (k + 1) from fun i a b hi => absurd hi (by omega))
            clear hk0
            go_wp2_with fail
            refine wp_region_quiet_lit (by kernel_rfl) (by kernel_rfl) ?_
            repeat (any_goals (first | go_big_quiet_step ((go_at_call 87; exact Calls.quiet_of_same (WD.out _ _))) | quiet_step ((go_at_call 87; exact Calls.quiet_of_same (WD.out _ _))) | (refine wpQuiet_step (fun K hK => ?_); go_simp; split <;> (refine hK _ ?_; clear hK K))))
            all_goals (refine wpQuiet_nil ?_; intro _ hw'; obtain ⟨nq, hw''⟩ := hw'; subst hw'')
            all_goals go_wp2_with fail
            all_goals simp only [dec_iff, Int.not_le, Int.not_lt] at *
            all_goals first
              | (go_ret
                 exact ⟨ret_f (fun h => by have := HONE.out h; unfold turnOne at this; omega), below_drewN (HB2.out _) _⟩)
              | (go_roundw
                 case measure => simp [intOf]; omega
                 case rel => exact ⟨k + 1, by omega, by go_num, below_drewN (HB2.out _) _, ⟨HX2.out.cell, HX2.out.lt⟩, J1.out (by unfold turnOne; omega), J2.out⟩)
          · have hk1 : 1 ≤ k := by omega
            have hk2 : (0 : Int) < (k : Int) := by omega
            obtain ⟨y, a2, cs2, hy, ha, q1, ⟨rfl, _, _⟩, q0, q2⟩ := HR.out.elem HW.out (k - 1) (by omega)
            cases ha
            have f0 := q0 (by decide)
            have f1 := q2 1 (by decide) (by decide)
            simp only [List.getElem?_cons_zero, List.getElem?_cons_succ] at f0 f1
            have HYY := Lib.hid hy
            have hyb := I1.out (k - 1) y (by omega) hy
            unfold turnOne at hyb
            obtain ⟨y1, y2, y3, y4⟩ := hyb
            have ha2 : (a1.add ((k - 1) * 2)).block < wl.heap.size := World.block_lt_of_cell? _ _ f0
            have hk3 : (0 : Int) ≤ (k : Int) - 1 := by omega
            have hk4 : (k : Int) - 1 < (n : Int) := by omega
            have hk6 : (1 : Int) ≤ (k : Int) := by omega
            have hk5 : ((k : Int) - 1).toNat = k - 1 := by omega
            have hw5 : IntKind.i64.wrap ((k : Int) - 1) = (k : Int) - 1 := by rw [IntKind.wrap_i64]; omega
            have hw6 : 0 ≤ x.at_ → IntKind.i64.wrap (x.at_ - y.at_) = x.at_ - y.at_ := fun h => by rw [IntKind.wrap_i64]; omega
            have HGAP := Lib.hid (fun h : mayZ z => show y.at_ + 2880 ≤ x.at_ from h.2.2.2.2 (k - 1) y x (by rw [HL.out]; omega) HYY.out (by rw [show k - 1 + 1 = k by omega]; exact HXX.out))
            have J2 := Lib.hid (fun h : y.at_ + 2880 ≤ x.at_ => show gapTo z.turns (k + 1) from fun i a b hi ha hb => by
              by_cases e : i + 1 = k
              · obtain rfl : i = k - 1 := by omega
                rw [HYY.out] at ha; rw [show k - 1 + 1 = k by omega, HXX.out] at hb; cases ha; cases hb; exact h
              · exact I2.out i a b (by omega) ha hb)
            clear q0 q1 q2 hy hk0
            go_wp2_with fail
            refine wp_region_quiet_lit (by kernel_rfl) (by kernel_rfl) ?_
            repeat (any_goals (first | go_big_quiet_step (((go_at_call 87; exact Calls.quiet_of_same (WD.out _ _)))) | quiet_step (((go_at_call 87; exact Calls.quiet_of_same (WD.out _ _)))) | (refine wpQuiet_step (fun K hK => ?_); go_simp; split <;> (refine hK _ ?_; clear hK K))))
            all_goals (refine wpQuiet_nil ?_; intro _ hw'; obtain ⟨nq, hw''⟩ := hw'; subst hw'')
            all_goals go_wp2_with fail
            all_goals simp only [dec_iff, Int.not_le, Int.not_lt] at *
            all_goals first
              | (go_ret
                 exact ⟨ret_f (fun h => by have h1 := HONE.out h; have h2 := HGAP.out h; unfold turnOne at h1; omega), below_drewN (HB2.out _) _⟩)
              | (go_roundw
                 case measure => simp [intOf]; omega
                 case rel => exact ⟨k + 1, by omega, by go_num, below_drewN (HB2.out _) _, ⟨HX2.out.cell, HX2.out.lt⟩, J1.out (by unfold turnOne; omega), J2.out (by omega)⟩)
        · obtain rfl : n = k := by omega
          have hyes := Lib.hid (show mayZ z from ⟨by have := HBASE.out; omega, by have := HBASE.out; omega, by have := HL.out; omega, fun t ht => by
            obtain ⟨i, hi⟩ := List.getElem?_of_mem ht
            exact I1.out i t (by have := (List.getElem?_eq_some_iff.1 hi).1; have := HL.out; omega) hi, by rw [HL.out]; exact I2.out⟩)
          go_wp2_with fail
          go_ret
          exact ⟨ret_t hyes.out, HW.out⟩
end Go.Proofs.YtechgcjdigpglaaGreat
namespace Go.Proofs.YtechgcjdigpglaaGreat
open Go.RowKit Go.ChangeShapes Go.WideShapes Go.Deep
set_option linter.all false
attribute [local go_sem ↓] Go.wp_at_zero Go.wp_at_succ

set_option maxHeartbeats 4000000 in
theorem from_any (cs : List Value) (z : ZoneD) (l : Int) (n : Nat) (w : World) (h : rZone w cs z) (hm : mayZ z) (hn : n ≤ z.turns.length) (hl0 : -1000000000000 ≤ l) (hl1 : l ≤ 1000000000000) :
    Calls Tryz.prog 136 #[.agg cs.toArray, .int .i64 l, .int .i64 (n : Nat)] w fun e w' => e = .returned (.tuple #[.int .i64 (minZ z l n), .bool (candZ z l n)]) ∧ Below w.heap.size w w' := by
  have SR := Lib.hid h
  obtain ⟨t, rfl, _, ht⟩ := h
  obtain ⟨o, nn, c, rfl, hl, _, _, RT⟩ := ht.open
  have hz : z.turns.length ≤ 1000 := by have := hm.2.2.1; omega
  have hA := hm.added n hn
  have AD := Lib.hid (fun (W : World) (hb : Below w.heap.size w W) => added_any _ z n W (SR.out.later hb) hn hz)
  have BH := Lib.hid (fun (W : World) (hb : Below w.heap.size w W) => behind_any _ z (minZ z l n) W (SR.out.later hb) hm.rises hz)
  have X0 := Lib.hid (BxAt.new w #[.int .i64 z.base, .slice o nn c] 24)
  have Y0 := Lib.hid (show Below w.heap.size w (w.alloc (.cells #[.int .i64 z.base, .slice o nn c] 24)) from belowA _ (Below.refl _ _))
  obtain ⟨A, hAe⟩ : ∃ A, A = addedZ z n := ⟨_, rfl⟩
  obtain ⟨u, hu⟩ : ∃ u, u = minZ z l n := ⟨_, rfl⟩
  have hu2 : l - A = u := by rw [hu, hAe]; rfl
  rw [← hAe] at AD hA
  rw [← hu] at BH ⊢
  have hw : wrap64 (l - A) = l - A := by unfold wrap64; omega
  have hw2 : IntKind.i64.wrap (l - A) = l - A := by rw [IntKind.wrap_i64]; omega
  obtain ⟨q, hq⟩ : ∃ q, q = behindZ z.turns u := ⟨_, rfl⟩
  have hq7 : q ≤ 1000 := by have := behindZ_le z.turns u; omega
  rw [← hq] at BH
  have HCD := Lib.hid (show ((q : Int) == (n : Int)) = candZ z l n by
    unfold candZ; rw [← hu, ← hq]
    by_cases e : q = n
    · rw [e]; simp
    · rw [beq_eq_false_iff_ne.2 (by omega), decide_eq_false e])
  subst hu2
  clear ht RT hm hn hl hz hAe hu hq
  go_enter Tryz.func136, Tryz.ntmps136
  go_wp2_with (first
    | (go_at_call 171; ((with_reducible refine (AD.out _ Y0.out).mono ?_); rintro e w1 ⟨rfl, hb1⟩; have X1 := Lib.hid (X0.out.below hb1); have kA1 := X1.out.cell; have Y1 := Lib.hid (Y0.out.trans (hb1.mono Y0.out.size)); clear hb1))
    | (go_at_call 135; ((with_reducible refine (BH.out _ Y1.out).mono ?_); rintro e w2 ⟨rfl, hb2⟩; have Y2 := Lib.hid (Y1.out.trans (hb2.mono Y1.out.size)); clear hb2)))
  go_ret2
  exact ⟨by rw [← HCD.out]; rfl, Y2.out⟩
end Go.Proofs.YtechgcjdigpglaaGreat
namespace Go.Proofs.YtechgcjdigpglaaGreat
open Go.RowKit Go.ChangeShapes Go.WideShapes Go.Deep
set_option linter.all false
attribute [local go_sem ↓] Go.wp_at_zero Go.wp_at_succ

set_option maxRecDepth 100000 in
set_option maxHeartbeats 8000000 in
theorem gap_any (cs : List Value) (z : ZoneD) (l : Int) (lo hi : Nat) (w : World) (h : rZone w cs z) (hm : mayZ z) (hlh : lo ≤ hi) (hn : hi ≤ z.turns.length) (hl0 : -1000000000000 ≤ l) (hl1 : l ≤ 1000000000000) :
    Calls Tryz.prog 137 #[.agg cs.toArray, .int .i64 l, .int .i64 (lo : Nat), .int .i64 (hi : Nat)] w fun e w' => e = .returned (.int .i64 (gapZ z l lo lo (hi - lo))) ∧ Below w.heap.size w w' := by
  have SR := Lib.hid h
  obtain ⟨t, rfl, _, ht⟩ := h
  obtain ⟨o, nn, c, rfl, hl, _, _, RT⟩ := ht.open
  have hz : z.turns.length ≤ 700 := hm.2.2.1
  have AD := Lib.hid (fun (k : Nat) (hk : k ≤ z.turns.length) (W : World) (hb : Below w.heap.size w W) => added_any _ z k W (SR.out.later hb) hk (by omega))
  have BH := Lib.hid (fun (u : Int) (W : World) (hb : Below w.heap.size w W) => behind_any _ z u W (SR.out.later hb) hm.rises (by omega))
  have HM := Lib.hid hm
  have X0 := Lib.hid (BxAt.new w #[.int .i64 z.base, .slice o nn c] 24)
  have Y0 := Lib.hid (show Below w.heap.size w (w.alloc (.cells #[.int .i64 z.base, .slice o nn c] 24)) from belowA _ (Below.refl _ _))
  have HN := Lib.hid hn
  have hhi : hi ≤ 700 := by omega
  have hz1 : z.turns.length ≤ 1000 := by omega
  have HZ := Lib.hid hz
  clear ht RT hm hl hz hn
  go_enter Tryz.func137, Tryz.ntmps137
  go_wp2_with fail
  go_loopw [9] (fun i wr => ∃ k : Nat, lo ≤ k ∧ k ≤ hi ∧ i = .int .i64 (k : Nat) ∧ Hid (Below w.heap.size w wr) ∧ Hid (BxAt w.heap.size #[.int .i64 z.base, .slice o nn c] wr) ∧ Hid (gapZ z l lo lo (hi - lo) = gapZ z l lo k (hi - k))) (fun i _ => hi - (intOf i).toNat)
  case atStart => exact ⟨lo, Nat.le_refl _, hlh, rfl, Y0, X0, rfl⟩
  case round =>
    obtain ⟨k, hlk, hkh, rfl, Y1, X1, HG⟩ := hrel
    obtain ⟨w1, rfl⟩ : ∃ x, x = wr := ⟨_, rfl⟩
    have kA1 := X1.out.cell
    by_cases hlt : k < hi
    · have hlt' : (k : Int) < (hi : Int) := by omega
      have hA := HM.out.added k (by have := HN.out; omega)
      have hB := HM.out.added (k + 1) (by have := HN.out; omega)
      have AD1 := Lib.hid (AD.out k (by have := HN.out; omega))
      have AD2 := Lib.hid (fun W hb => (show Calls Tryz.prog 171 #[.agg #[.int .i64 z.base, .slice o nn c], .int .i64 ((k : Int) + 1)] W _ from AD.out (k + 1) (by have := HN.out; omega) W hb))
      have B1 := Lib.hid (BH.out (minZ z l k))
      have B2 := Lib.hid (BH.out (minZ z l (k + 1)))
      obtain ⟨A, hAe⟩ : ∃ A, A = addedZ z k := ⟨_, rfl⟩
      obtain ⟨A2, hAe2⟩ : ∃ A, A = addedZ z (k + 1) := ⟨_, rfl⟩
      obtain ⟨q, hq⟩ : ∃ q, q = behindZ z.turns (minZ z l k) := ⟨_, rfl⟩
      obtain ⟨q2, hq2⟩ : ∃ q, q = behindZ z.turns (minZ z l (k + 1)) := ⟨_, rfl⟩
      have hqb : q ≤ 1000 := by have := behindZ_le z.turns (minZ z l k); omega
      have hqb2 : q2 ≤ 1000 := by have := behindZ_le z.turns (minZ z l (k + 1)); omega
      rw [← hq] at B1
      rw [← hq2] at B2
      have em : minZ z l k = l - A := by rw [hAe]; rfl
      have em2 : minZ z l (k + 1) = l - A2 := by rw [hAe2]; rfl
      rw [em] at B1
      rw [em2] at B2
      rw [← hAe] at AD1 hA
      rw [← hAe2] at AD2 hB
      have HJ := Lib.hid (show jumpZ z l k = (decide (k < q) && decide (q2 ≤ k)) by unfold jumpZ; rw [← hq, ← hq2])
      have HS := Lib.hid (show gapZ z l lo k (hi - k) = if jumpZ z l k then l - A else gapZ z l lo (k + 1) (hi - (k + 1)) by
        obtain ⟨d, hd⟩ : ∃ d, hi - k = d + 1 := ⟨hi - k - 1, by omega⟩
        rw [hd, gapZ, em, show hi - (k + 1) = d by omega])
      have HW := Lib.hid (show IntKind.i64.wrap (l - A) = l - A ∧ IntKind.i64.wrap (l - A2) = l - A2 ∧ IntKind.i64.wrap ((k : Int) + 1) = (k : Int) + 1 by
        refine ⟨?_, ?_, ?_⟩ <;> (rw [IntKind.wrap_i64]; omega))
      clear hAe hAe2 hq hq2 em em2
      by_cases c1 : k < q
      · have c1' : (k : Int) < (q : Int) := by omega
        have d1 := decide_eq_true c1'
        by_cases c2 : q2 ≤ k
        · have c2' : (q2 : Int) ≤ (k : Int) := by omega
          have d2 := decide_eq_true c2'
          have HR := Lib.hid (show l - A = gapZ z l lo lo (hi - lo) by rw [HG.out, HS.out, HJ.out, decide_eq_true c1, decide_eq_true c2]; rfl)
          clear c1 c2
          obtain ⟨hw2, hw4, hw6⟩ := HW.out
          go_upto_region 5 with ((go_at_call 171; ((with_reducible refine (AD1.out _ Y1.out).mono ?_); rintro e w2 ⟨rfl, hb2⟩; have X2 := Lib.hid (X1.out.below hb2); have kA2 := X2.out.cell; have Y2 := Lib.hid (Y1.out.trans (hb2.mono Y1.out.size)); clear hb2)))
          have kAd : ∀ j, w2.drew.cell? ⟨w.heap.size, j, none⟩ = (#[.int .i64 z.base, .slice o nn c] : Array Value)[j]? := kA2
          go_region_held3 (fun W' => ∀ j, W'.cell? ⟨w.heap.size, j, none⟩ = (#[.int .i64 z.base, .slice o nn c] : Array Value)[j]?) (assumption) (first | (go_at_call 135; ((with_reducible refine (B1.out _ (by first | exact Y2.out | exact Y2.out.drew)).mono ?_); rintro e w3 ⟨rfl, hb3⟩; have hq3 := show Below w2.heap.size w2 w3 from ⟨hb3.os, hb3.tape, hb3.output, hb3.size, hb3.block⟩; have X3 := Lib.hid (X2.out.below hq3); have kA3 := X3.out.cell; have Y3 := Lib.hid (Y2.out.trans (hq3.mono Y2.out.size)); clear hb3 hq3)) | (go_at_call 171; ((with_reducible refine (AD2.out _ (by first | exact Y3.out | exact Y3.out.drew)).mono ?_); rintro e w4 ⟨rfl, hb4⟩; have hq4 := show Below w3.heap.size w3 w4 from ⟨hb4.os, hb4.tape, hb4.output, hb4.size, hb4.block⟩; have X4 := Lib.hid (X3.out.below hq4); have kA4 := X4.out.cell; have Y4 := Lib.hid (Y3.out.trans (hq4.mono Y3.out.size)); clear hb4 hq4)) | (go_at_call 135; ((with_reducible refine (B2.out _ (by first | exact Y4.out | exact Y4.out.drew)).mono ?_); rintro e w5 ⟨rfl, hb5⟩; have hq5 := show Below w4.heap.size w4 w5 from ⟨hb5.os, hb5.tape, hb5.output, hb5.size, hb5.block⟩; have X5 := Lib.hid (X4.out.below hq5); have kA5 := X5.out.cell; have Y5 := Lib.hid (Y4.out.trans (hq5.mono Y4.out.size)); clear hb5 hq5)))
          all_goals
            go_wp2_with fail
            go_ret
            exact ⟨ret_i HR.out, by first | exact Y5.out | exact Y5.out.drew⟩
        · have c2' : ¬ (q2 : Int) ≤ (k : Int) := by omega
          have d2 := decide_eq_false c2'
          have HR := Lib.hid (show gapZ z l lo lo (hi - lo) = gapZ z l lo (k + 1) (hi - (k + 1)) by rw [HG.out, HS.out, HJ.out, decide_eq_false c2]; simp)
          clear c1 c2
          obtain ⟨hw2, hw4, hw6⟩ := HW.out
          go_upto_region 5 with ((go_at_call 171; ((with_reducible refine (AD1.out _ Y1.out).mono ?_); rintro e w2 ⟨rfl, hb2⟩; have X2 := Lib.hid (X1.out.below hb2); have kA2 := X2.out.cell; have Y2 := Lib.hid (Y1.out.trans (hb2.mono Y1.out.size)); clear hb2)))
          have kAd : ∀ j, w2.drew.cell? ⟨w.heap.size, j, none⟩ = (#[.int .i64 z.base, .slice o nn c] : Array Value)[j]? := kA2
          go_region_held3 (fun W' => ∀ j, W'.cell? ⟨w.heap.size, j, none⟩ = (#[.int .i64 z.base, .slice o nn c] : Array Value)[j]?) (assumption) (first | (go_at_call 135; ((with_reducible refine (B1.out _ (by first | exact Y2.out | exact Y2.out.drew)).mono ?_); rintro e w3 ⟨rfl, hb3⟩; have hq3 := show Below w2.heap.size w2 w3 from ⟨hb3.os, hb3.tape, hb3.output, hb3.size, hb3.block⟩; have X3 := Lib.hid (X2.out.below hq3); have kA3 := X3.out.cell; have Y3 := Lib.hid (Y2.out.trans (hq3.mono Y2.out.size)); clear hb3 hq3)) | (go_at_call 171; ((with_reducible refine (AD2.out _ (by first | exact Y3.out | exact Y3.out.drew)).mono ?_); rintro e w4 ⟨rfl, hb4⟩; have hq4 := show Below w3.heap.size w3 w4 from ⟨hb4.os, hb4.tape, hb4.output, hb4.size, hb4.block⟩; have X4 := Lib.hid (X3.out.below hq4); have kA4 := X4.out.cell; have Y4 := Lib.hid (Y3.out.trans (hq4.mono Y3.out.size)); clear hb4 hq4)) | (go_at_call 135; ((with_reducible refine (B2.out _ (by first | exact Y4.out | exact Y4.out.drew)).mono ?_); rintro e w5 ⟨rfl, hb5⟩; have hq5 := show Below w4.heap.size w4 w5 from ⟨hb5.os, hb5.tape, hb5.output, hb5.size, hb5.block⟩; have X5 := Lib.hid (X4.out.below hq5); have kA5 := X5.out.cell; have Y5 := Lib.hid (Y4.out.trans (hq5.mono Y4.out.size)); clear hb5 hq5)))
          all_goals
            go_wp2_with fail
            go_roundw
            case measure => simp [intOf]; omega
            case rel => exact ⟨k + 1, by omega, by omega, by go_num, by first | exact Y5.out | exact Y5.out.drew, by first | exact X5 | exact Lib.hid X5.out.drew, HR.out⟩
      · have c1' : ¬ (k : Int) < (q : Int) := by omega
        have d1 := decide_eq_false c1'
        have d1n := decide_eq_false c1
        have HR := Lib.hid (show gapZ z l lo lo (hi - lo) = gapZ z l lo (k + 1) (hi - (k + 1)) by rw [HG.out, HS.out, HJ.out, decide_eq_false c1]; rfl)
        clear c1
        obtain ⟨hw2, hw4, hw6⟩ := HW.out
        go_upto_region 5 with ((go_at_call 171; ((with_reducible refine (AD1.out _ Y1.out).mono ?_); rintro e w2 ⟨rfl, hb2⟩; have X2 := Lib.hid (X1.out.below hb2); have kA2 := X2.out.cell; have Y2 := Lib.hid (Y1.out.trans (hb2.mono Y1.out.size)); clear hb2)))
        have kAd : ∀ j, w2.drew.cell? ⟨w.heap.size, j, none⟩ = (#[.int .i64 z.base, .slice o nn c] : Array Value)[j]? := kA2
        refine wp_region_held_drew (S := (fun W' => ∀ j, W'.cell? ⟨w.heap.size, j, none⟩ = (#[.int .i64 z.base, .slice o nn c] : Array Value)[j]?)) (by kernel_rfl) kAd (fun hHeld => ?_)
        simp only [List.size_toArray, List.length_cons, List.length_nil, Nat.reduceAdd, Array.replicate_succ, Array.replicate_zero, List.push_toArray, List.nil_append, List.cons_append]
        refine wpAnyH_take (i := 0) (oi := ⟨some 22, _, _, _, _, _⟩) (v := ?_) rfl (by kernel_rfl) (by kernel_rfl) (by kernel_rfl) (fun _ _ _ h => h) (Or.inl ⟨by kernel_rfl, ?_⟩) (by assumption) ?_
        rotate_left
        · intro w hSw; (try dsimp only at hSw); go_simp; try with_reducible rfl
        try simp only [Act.put, List.setIfInBounds_toArray, List.set_cons_zero, List.set_cons_succ]
        refine wpAnyH_take (i := 1) (oi := ⟨some 23, _, _, _, _, _⟩) (v := ?_) rfl (by kernel_rfl) (by kernel_rfl) (by kernel_rfl) (fun _ _ _ h => h) (Or.inl ⟨by kernel_rfl, ?_⟩) (by assumption) ?_
        rotate_left
        · intro w hSw; (try dsimp only at hSw); go_simp; try with_reducible rfl
        try simp only [Act.put, List.setIfInBounds_toArray, List.set_cons_zero, List.set_cons_succ]
        refine wpAnyH_take (i := 3) (oi := ⟨some 25, _, _, _, _, _⟩) (v := ?_) rfl (by kernel_rfl) (by kernel_rfl) (by kernel_rfl) (fun _ _ _ h => h) (Or.inl ⟨by kernel_rfl, ?_⟩) (by assumption) ?_
        rotate_left
        · intro w hSw; (try dsimp only at hSw); go_simp; try with_reducible rfl
        try simp only [Act.put, List.setIfInBounds_toArray, List.set_cons_zero, List.set_cons_succ]
        refine wpAnyH_ready (rs := [2]) (by kernel_rfl) (by simp) ?_
        refine AllReadyH.cons rfl (fun K hK => ?_) AllReadyH.nil
        have HK := Lib.hid hK
        go_simp
        go_at_call 135; ((with_reducible refine (B1.out _ (by first | exact Y2.out | exact Y2.out.drew)).mono ?_); rintro e w3 ⟨rfl, hb3⟩; have hq3 := show Below w2.heap.size w2 w3 from ⟨hb3.os, hb3.tape, hb3.output, hb3.size, hb3.block⟩; have X3 := Lib.hid (X2.out.below hq3); have kA3 := X3.out.cell; have Y3 := Lib.hid (Y2.out.trans (hq3.mono Y2.out.size)); clear hb3 hq3)
        go_simp
        refine HK.out _ _ kA3 (fun hHeld => ?_)
        clear HK hK K
        try simp only [Act.put, List.setIfInBounds_toArray, List.set_cons_zero, List.set_cons_succ]
        refine wpAnyH_take (i := 4) (oi := ⟨some 26, _, _, _, _, _⟩) (v := ?_) rfl (by kernel_rfl) (by kernel_rfl) (by kernel_rfl) (fun _ _ _ h => h) (Or.inl ⟨by kernel_rfl, ?_⟩) (by assumption) ?_
        rotate_left
        · intro w hSw; (try dsimp only at hSw); go_simp; try with_reducible rfl
        try simp only [Act.put, List.setIfInBounds_toArray, List.set_cons_zero, List.set_cons_succ]
        refine wpAnyH_take (i := 5) (oi := ⟨some 27, _, _, _, _, _⟩) (v := ?_) rfl (by kernel_rfl) (by kernel_rfl) (by kernel_rfl) (fun _ _ _ h => h) (Or.inl ⟨by kernel_rfl, ?_⟩) (by assumption) ?_
        rotate_left
        · intro w hSw; (try dsimp only at hSw); go_simp; try with_reducible rfl
        try simp only [Act.put, List.setIfInBounds_toArray, List.set_cons_zero, List.set_cons_succ]
        refine wpAnyH_take (i := 6) (oi := ⟨some 28, _, _, _, _, _⟩) (v := undef) rfl (by kernel_rfl) (by kernel_rfl) (by kernel_rfl) (fun _ _ _ h => h) (Or.inr ⟨by kernel_rfl, rfl⟩) (by assumption) ?_
        try simp only [Act.put, List.setIfInBounds_toArray, List.set_cons_zero, List.set_cons_succ]
        refine wpAnyH_take (i := 7) (oi := ⟨some 29, _, _, _, _, _⟩) (v := undef) rfl (by kernel_rfl) (by kernel_rfl) (by kernel_rfl) (fun _ _ _ h => h) (Or.inr ⟨by kernel_rfl, rfl⟩) (by assumption) ?_
        try simp only [Act.put, List.setIfInBounds_toArray, List.set_cons_zero, List.set_cons_succ]
        refine wpAnyH_take (i := 8) (oi := ⟨some 30, _, _, _, _, _⟩) (v := undef) rfl (by kernel_rfl) (by kernel_rfl) (by kernel_rfl) (fun _ _ _ h => h) (Or.inr ⟨by kernel_rfl, rfl⟩) (by assumption) ?_
        try simp only [Act.put, List.setIfInBounds_toArray, List.set_cons_zero, List.set_cons_succ]
        refine wpAnyH_take (i := 9) (oi := ⟨some 31, _, _, _, _, _⟩) (v := undef) rfl (by kernel_rfl) (by kernel_rfl) (by kernel_rfl) (fun _ _ _ h => h) (Or.inr ⟨by kernel_rfl, rfl⟩) (by assumption) ?_
        try simp only [Act.put, List.setIfInBounds_toArray, List.set_cons_zero, List.set_cons_succ]
        refine wpAnyH_take (i := 10) (oi := ⟨some 32, _, _, _, _, _⟩) (v := undef) rfl (by kernel_rfl) (by kernel_rfl) (by kernel_rfl) (fun _ _ _ h => h) (Or.inr ⟨by kernel_rfl, rfl⟩) (by assumption) ?_
        try simp only [Act.put, List.setIfInBounds_toArray, List.set_cons_zero, List.set_cons_succ]
        refine wpAnyH_take (i := 11) (oi := ⟨some 33, _, _, _, _, _⟩) (v := undef) rfl (by kernel_rfl) (by kernel_rfl) (by kernel_rfl) (fun _ _ _ h => h) (Or.inr ⟨by kernel_rfl, rfl⟩) (by assumption) ?_
        try simp only [Act.put, List.setIfInBounds_toArray, List.set_cons_zero, List.set_cons_succ]
        refine wpAnyH_take (i := 12) (oi := ⟨some 34, _, _, _, _, _⟩) (v := undef) rfl (by kernel_rfl) (by kernel_rfl) (by kernel_rfl) (fun _ _ _ h => h) (Or.inr ⟨by kernel_rfl, rfl⟩) (by assumption) ?_
        try simp only [Act.put, List.setIfInBounds_toArray, List.set_cons_zero, List.set_cons_succ]
        refine wpAnyH_take (i := 13) (oi := ⟨some 35, _, _, _, _, _⟩) (v := undef) rfl (by kernel_rfl) (by kernel_rfl) (by kernel_rfl) (fun _ _ _ h => h) (Or.inr ⟨by kernel_rfl, rfl⟩) (by assumption) ?_
        try simp only [Act.put, List.setIfInBounds_toArray, List.set_cons_zero, List.set_cons_succ]
        refine wpAnyH_take (i := 14) (oi := ⟨some 36, _, _, _, _, _⟩) (v := undef) rfl (by kernel_rfl) (by kernel_rfl) (by kernel_rfl) (fun _ _ _ h => h) (Or.inr ⟨by kernel_rfl, rfl⟩) (by assumption) ?_
        try simp only [Act.put, List.setIfInBounds_toArray, List.set_cons_zero, List.set_cons_succ]
        refine wpAnyH_take (i := 15) (oi := ⟨some 37, _, _, _, _, _⟩) (v := undef) rfl (by kernel_rfl) (by kernel_rfl) (by kernel_rfl) (fun _ _ _ h => h) (Or.inr ⟨by kernel_rfl, rfl⟩) (by assumption) ?_
        try simp only [Act.put, List.setIfInBounds_toArray, List.set_cons_zero, List.set_cons_succ]
        refine wpAnyH_take (i := 16) (oi := ⟨some 38, _, _, _, _, _⟩) (v := ?_) rfl (by kernel_rfl) (by kernel_rfl) (by kernel_rfl) (fun _ _ _ h => h) (Or.inl ⟨by kernel_rfl, ?_⟩) (by assumption) ?_
        rotate_left
        · intro w hSw; (try dsimp only at hSw); go_simp; try with_reducible rfl
        try simp only [Act.put, List.setIfInBounds_toArray, List.set_cons_zero, List.set_cons_succ]
        refine wpAnyH_done (by kernel_rfl) ?_ _
        go_wp2_with fail
        go_roundw
        case measure => simp [intOf]; omega
        case rel => exact ⟨k + 1, by omega, by omega, by go_num, by first | exact Y3.out | exact Y3.out.drew, by first | exact X3 | exact Lib.hid X3.out.drew, HR.out⟩
    · obtain rfl : hi = k := by omega
      have hA := HM.out.added lo (by have := HN.out; omega)
      have AD1 := Lib.hid (AD.out lo (by have := HN.out; omega))
      obtain ⟨A, hAe⟩ : ∃ A, A = addedZ z lo := ⟨_, rfl⟩
      rw [← hAe] at AD1 hA
      have HR := Lib.hid (show l - A = gapZ z l lo lo (hi - lo) by rw [HG.out, Nat.sub_self, gapZ, hAe]; rfl)
      clear hAe
      go_wp2_with ((go_at_call 171; ((with_reducible refine (AD1.out _ Y1.out).mono ?_); rintro e w2 ⟨rfl, hb2⟩; have X2 := Lib.hid (X1.out.below hb2); have kA2 := X2.out.cell; have Y2 := Lib.hid (Y1.out.trans (hb2.mono Y1.out.size)); clear hb2)))
      go_ret
      exact ⟨ret_i HR.out, Y2.out⟩
end Go.Proofs.YtechgcjdigpglaaGreat
namespace Go.Proofs.YtechgcjdigpglaaGreat
open Go.RowKit Go.ChangeShapes Go.WideShapes Go.Deep
set_option linter.all false
attribute [local go_sem ↓] Go.wp_at_zero Go.wp_at_succ

/-- What Utc answers. -/
def utcV (z : ZoneD) (l k : Int) : Value := if 0 ≤ atZ z l ∧ atZ z l ≤ 158310720 then .tuple #[.int .i64 (atZ z l), .int .i64 k, .bool true] else .tuple #[.int .i64 0, .int .i64 0, .bool false]
theorem utcV_t {z : ZoneD} {l k : Int} (h : 0 ≤ atZ z l ∧ atZ z l ≤ 158310720) : Ending.returned (.tuple #[.int .i64 (atZ z l), .int .i64 k, .bool true]) = Ending.returned (utcV z l k) := by unfold utcV; rw [if_pos h]
theorem utcV_f {z : ZoneD} {l k : Int} (h : ¬ (0 ≤ atZ z l ∧ atZ z l ≤ 158310720)) : Ending.returned (.tuple #[.int .i64 0, .int .i64 0, .bool false]) = Ending.returned (utcV z l k) := by unfold utcV; rw [if_neg h]

set_option maxRecDepth 100000 in
set_option maxHeartbeats 8000000 in
theorem utc_yes (cs : List Value) (z : ZoneD) (l : Int) (w : World) (h : rZone w cs z) (hm : mayZ z) (hl0 : -900 ≤ l) (hl1 : l ≤ 158311620) :
    Calls Tryz.prog 94 #[.agg cs.toArray, .int .i64 l] w fun e w' => (∃ k : Int, e = .returned (utcV z l k)) ∧ Below w.heap.size w w' := by
  have SR := Lib.hid h
  obtain ⟨t, rfl, _, ht⟩ := h
  obtain ⟨o, nn, c, rfl, hl, _, _, RT⟩ := ht.open
  have hz : z.turns.length ≤ 700 := hm.2.2.1
  have MY := Lib.hid (fun (W : World) (hb : Below w.heap.size w W) => c_t (zMay_any _ z W (SR.out.later hb) (by omega)) hm)
  obtain ⟨lo, hlo⟩ : ∃ k, k = loZ z l := ⟨_, rfl⟩
  obtain ⟨hi, hhi⟩ : ∃ k, k = hiZ z l := ⟨_, rfl⟩
  have hlh : lo ≤ hi := by rw [hlo, hhi]; exact lohi z l
  have hhn : hi ≤ z.turns.length := by rw [hhi]; exact behindZ_le _ _
  have hi7 : hi ≤ 700 := by omega
  have B1 := Lib.hid (fun (W : World) (hb : Below w.heap.size w W) => behind_any _ z (l - 901) W (SR.out.later hb) hm.rises (by omega))
  have B2 := Lib.hid (fun (W : World) (hb : Below w.heap.size w W) => behind_any _ z (l + 901) W (SR.out.later hb) hm.rises (by omega))
  rw [show behindZ z.turns (l - 901) = lo from hlo.symm] at B1
  rw [show behindZ z.turns (l + 901) = hi from hhi.symm] at B2
  have FR := Lib.hid (fun (k : Nat) (hk : k ≤ z.turns.length) (W : World) (hb : Below w.heap.size w W) => from_any _ z l k W (SR.out.later hb) hm hk (by omega) (by omega))
  have GP := Lib.hid (fun (W : World) (hb : Below w.heap.size w W) => gap_any _ z l lo hi W (SR.out.later hb) hm hlh hhn (by omega) (by omega))
  have HAT := Lib.hid (show atZ z l = if (scanZ z l lo (hi + 1 - lo)).2 = 0 then gapZ z l lo lo (hi - lo) else (scanZ z l lo (hi + 1 - lo)).1 by unfold atZ; rw [← hlo, ← hhi])
  have HHN := Lib.hid hhn
  have X0 := Lib.hid (BxAt.new w #[.int .i64 z.base, .slice o nn c] 24)
  have Y0 := Lib.hid (show Below w.heap.size w (w.alloc (.cells #[.int .i64 z.base, .slice o nn c] 24)) from belowA _ (Below.refl _ _))
  have HW := Lib.hid (show IntKind.i64.wrap (l - 900) = l - 900 ∧ IntKind.i64.wrap (l - 900 - 1) = l - 901 ∧ IntKind.i64.wrap (l + 900) = l + 900 ∧ IntKind.i64.wrap (l + 900 + 1) = l + 901 by
    refine ⟨?_, ?_, ?_, ?_⟩ <;> (rw [IntKind.wrap_i64]; omega))
  have d1 : ¬ l < -900 := by omega
  have d2 : ¬ 158311620 < l := by omega
  clear ht RT hm hl hz hlo hhi hhn
  go_enter Tryz.func94, Tryz.ntmps94
  go_upto_region 3 with ((go_at_call 50; ((with_reducible refine (MY.out _ Y0.out).mono ?_); rintro e w1 ⟨rfl, hb1⟩; have X1 := Lib.hid (X0.out.below hb1); have kA1 := X1.out.cell; have Y1 := Lib.hid (Y0.out.trans (hb1.mono Y0.out.size)); clear hb1)))
  go_cut [7, 8] from 9 (fun a b W => a = .int .i64 (lo : Nat) ∧ b = .int .i64 (hi : Nat) ∧ Hid (Below w.heap.size w W) ∧ Hid (BxAt w.heap.size #[.int .i64 z.base, .slice o nn c] W))
  case first =>
    obtain ⟨hw1, hw2, hw3, hw4⟩ := HW.out
    have kAd : ∀ j, w1.drew.cell? ⟨w.heap.size, j, none⟩ = (#[.int .i64 z.base, .slice o nn c] : Array Value)[j]? := kA1
    go_region_held3 (fun W' => ∀ j, W'.cell? ⟨w.heap.size, j, none⟩ = (#[.int .i64 z.base, .slice o nn c] : Array Value)[j]?) (assumption) (first | (go_at_call 135; ((with_reducible refine (B1.out _ (by first | exact Y1.out | exact Y1.out.drew)).mono ?_); rintro e w2 ⟨rfl, hb2⟩; have hq2 := show Below w1.heap.size w1 w2 from ⟨hb2.os, hb2.tape, hb2.output, hb2.size, hb2.block⟩; have X2 := Lib.hid (X1.out.below hq2); have kA2 := X2.out.cell; have Y2 := Lib.hid (Y1.out.trans (hq2.mono Y1.out.size)); clear hb2 hq2)) | (go_at_call 135; ((with_reducible refine (B2.out _ (by first | exact Y2.out | exact Y2.out.drew)).mono ?_); rintro e w3 ⟨rfl, hb3⟩; have hq3 := show Below w2.heap.size w2 w3 from ⟨hb3.os, hb3.tape, hb3.output, hb3.size, hb3.block⟩; have X3 := Lib.hid (X2.out.below hq3); have kA3 := X3.out.cell; have Y3 := Lib.hid (Y2.out.trans (hq3.mono Y2.out.size)); clear hb3 hq3)))
    all_goals
      go_wp2_with fail
      go_meet
      first
        | exact ⟨rfl, rfl, Y3, X3⟩
        | exact ⟨rfl, rfl, Lib.hid Y3.out.drew, Lib.hid X3.out.drew⟩
  case rest =>
  clear X0 Y0
  obtain ⟨rfl, rfl, Y1, X1⟩ := hcut
  go_wp2_with fail
  go_loopw [10, 11, 12] (fun m a i wr => ∃ d : Nat, lo + d ≤ hi + 1 ∧ i = .int .i64 ((lo + d : Nat) : Int) ∧ m = .int .i64 ((scanZ z l lo d).2 : Nat) ∧ a = .int .i64 (scanZ z l lo d).1 ∧ Hid (Below w.heap.size w wr) ∧ Hid (BxAt w.heap.size #[.int .i64 z.base, .slice o nn c] wr)) (fun _ _ i _ => hi + 1 - (intOf i).toNat)
  case atStart => exact ⟨0, by omega, rfl, rfl, rfl, Y1, X1⟩
  case round =>
    obtain ⟨d, hd, rfl, rfl, rfl, Y1, X1⟩ := hrel
    obtain ⟨w1, rfl⟩ : ∃ x, x = wr := ⟨_, rfl⟩
    have kA1 := X1.out.cell
    have hsl := scanZ_le z l lo d
    obtain ⟨sc, hsc⟩ : ∃ s, s = scanZ z l lo d := ⟨_, rfl⟩
    rw [← hsc] at hsl ⊢
    obtain ⟨A, m⟩ := sc
    simp only at hsl ⊢
    have hm7 : m ≤ 800 := by omega
    by_cases hlt : lo + d ≤ hi
    · have hlt' : ((lo + d : Nat) : Int) ≤ (hi : Int) := by omega
      obtain ⟨k, hk⟩ : ∃ k, k = lo + d := ⟨_, rfl⟩
      rw [← hk] at hlt hlt' ⊢
      have F1 := Lib.hid (FR.out k (by have := HHN.out; omega))
      obtain ⟨cb, hcb⟩ : ∃ b, b = candZ z l k := ⟨_, rfl⟩
      obtain ⟨u, hu⟩ : ∃ u, u = minZ z l k := ⟨_, rfl⟩
      rw [← hcb, ← hu] at F1
      have HSC := Lib.hid (show scanZ z l lo (d + 1) = if cb then (if m = 0 then u else A, m + 1) else (A, m) by rw [scanZ, ← hsc, hcb, hu, hk])
      have HK := Lib.hid hk
      clear hsc hcb hu hk hd
      cases cb with
      | true =>
        by_cases hm0 : m = 0
        · have b0 : ((m : Int) == 0) = true := by simp [hm0]
          have HS2 := Lib.hid (show scanZ z l lo (d + 1) = (u, m + 1) by rw [HSC.out, if_pos rfl, if_pos hm0])
          clear hm0
          go_wp2_with ((go_at_call 136; ((with_reducible refine (F1.out _ Y1.out).mono ?_); rintro e w2 ⟨rfl, hb2⟩; have X2 := Lib.hid (X1.out.below hb2); have kA2 := X2.out.cell; have Y2 := Lib.hid (Y1.out.trans (hb2.mono Y1.out.size)); clear hb2)))
          go_roundw
          case measure => simp [intOf]; omega
          case rel => exact ⟨d + 1, by have := HK.out; omega, by have := HK.out; go_num, by rw [HS2.out]; go_num, by rw [HS2.out], Y2, X2⟩
        · have b0 : ((m : Int) == 0) = false := by simp [hm0]
          have HS2 := Lib.hid (show scanZ z l lo (d + 1) = (A, m + 1) by rw [HSC.out, if_pos rfl, if_neg hm0])
          clear hm0
          go_wp2_with ((go_at_call 136; ((with_reducible refine (F1.out _ Y1.out).mono ?_); rintro e w2 ⟨rfl, hb2⟩; have X2 := Lib.hid (X1.out.below hb2); have kA2 := X2.out.cell; have Y2 := Lib.hid (Y1.out.trans (hb2.mono Y1.out.size)); clear hb2)))
          go_roundw
          case measure => simp [intOf]; omega
          case rel => exact ⟨d + 1, by have := HK.out; omega, by have := HK.out; go_num, by rw [HS2.out]; go_num, by rw [HS2.out], Y2, X2⟩
      | false =>
        have HS2 := Lib.hid (show scanZ z l lo (d + 1) = (A, m) by rw [HSC.out]; rfl)
        go_wp2_with ((go_at_call 136; ((with_reducible refine (F1.out _ Y1.out).mono ?_); rintro e w2 ⟨rfl, hb2⟩; have X2 := Lib.hid (X1.out.below hb2); have kA2 := X2.out.cell; have Y2 := Lib.hid (Y1.out.trans (hb2.mono Y1.out.size)); clear hb2)))
        go_roundw
        case measure => simp [intOf]; omega
        case rel => exact ⟨d + 1, by have := HK.out; omega, by have := HK.out; go_num, by rw [HS2.out], by rw [HS2.out], Y2, X2⟩
    · have hd2 : d = hi + 1 - lo := by omega
      have hnl : ¬ ((lo + d : Nat) : Int) ≤ (hi : Int) := by omega
      rw [hd2] at hsc
      have HAV := Lib.hid (show atZ z l = if m = 0 then gapZ z l lo lo (hi - lo) else A by rw [HAT.out, ← hsc])
      have IN := Lib.hid (fun n W => zin_any n W)
      clear hsc hd hd2 HAT
      by_cases hm0 : m = 0
      · have b0 : ((m : Int) == 0) = true := by simp [hm0]
        have b0n : (m == 0) = true := by simp [hm0]
        have hg : gapZ z l lo lo (hi - lo) = atZ z l := by rw [HAV.out, if_pos hm0]
        rw [hg] at GP
        clear hm0 HAV hg
        by_cases hr : 0 ≤ atZ z l ∧ atZ z l ≤ 158310720
        · have I1 := Lib.hid (fun W => c_t (IN.out (atZ z l) W) hr)
          have HR := Lib.hid (fun k => utcV_t (k := k) hr)
          clear hr IN
          go_wp2_with (first | (go_at_call 137; ((with_reducible refine (GP.out _ Y1.out).mono ?_); rintro e w2 ⟨rfl, hb2⟩; have Y2 := Lib.hid (Y1.out.trans (hb2.mono Y1.out.size)); clear hb2)) | (go_at_call 138; ((with_reducible refine (I1.out _).mono ?_); rintro e w3 ⟨rfl, rfl⟩)))
          go_ret3
          exact ⟨⟨1, HR.out _⟩, Y2.out⟩
        · have I1 := Lib.hid (fun W => c_f (IN.out (atZ z l) W) hr)
          have HR := Lib.hid (fun k => utcV_f (k := k) hr)
          clear hr IN
          go_wp2_with (first | (go_at_call 137; ((with_reducible refine (GP.out _ Y1.out).mono ?_); rintro e w2 ⟨rfl, hb2⟩; have Y2 := Lib.hid (Y1.out.trans (hb2.mono Y1.out.size)); clear hb2)) | (go_at_call 138; ((with_reducible refine (I1.out _).mono ?_); rintro e w3 ⟨rfl, rfl⟩)))
          go_ret3
          exact ⟨⟨0, HR.out _⟩, Y2.out⟩
      · have b0 : ((m : Int) == 0) = false := by simp [hm0]
        have b0n : (m == 0) = false := by simp [hm0]
        have hg : A = atZ z l := by rw [HAV.out, if_neg hm0]
        subst hg
        clear hm0 HAV
        cases hm2 : decide (m = 2)
        all_goals
          have b2 : ((m : Int) == 2) = decide (m = 2) := by
            rw [Bool.eq_iff_iff, beq_iff_eq, decide_eq_true_iff]; omega
          have b2n : (m == 2) = decide (m = 2) := by
            rw [Bool.eq_iff_iff, beq_iff_eq, decide_eq_true_iff]
          rw [hm2] at b2 b2n
          clear hm2
          by_cases hr : 0 ≤ atZ z l ∧ atZ z l ≤ 158310720
          · have I1 := Lib.hid (fun W => c_t (IN.out (atZ z l) W) hr)
            have HR := Lib.hid (fun k => utcV_t (k := k) hr)
            clear hr IN
            go_wp2_with (go_at_call 138; ((with_reducible refine (I1.out _).mono ?_); rintro e w3 ⟨rfl, rfl⟩))
            go_ret3
            exact ⟨⟨_, HR.out _⟩, Y1.out⟩
          · have I1 := Lib.hid (fun W => c_f (IN.out (atZ z l) W) hr)
            have HR := Lib.hid (fun k => utcV_f (k := k) hr)
            clear hr IN
            go_wp2_with (go_at_call 138; ((with_reducible refine (I1.out _).mono ?_); rintro e w3 ⟨rfl, rfl⟩))
            go_ret3
            exact ⟨⟨0, HR.out _⟩, Y1.out⟩

set_option maxHeartbeats 4000000 in
theorem utc_no (cs : List Value) (z : ZoneD) (l : Int) (w : World) (h : rZone w cs z) (hn : z.turns.length ≤ 1000) (hno : ¬ mayZ z ∨ l < -900 ∨ 158311620 < l) :
    Calls Tryz.prog 94 #[.agg cs.toArray, .int .i64 l] w fun e w' => e = .returned (.tuple #[.int .i64 0, .int .i64 0, .bool false]) ∧ Below w.heap.size w w' := by
  have SR := Lib.hid h
  obtain ⟨t, rfl, _, ht⟩ := h
  obtain ⟨o, nn, c, rfl, hl, _, _, RT⟩ := ht.open
  have MY := Lib.hid (fun (W : World) (hb : Below w.heap.size w W) => zMay_any _ z W (SR.out.later hb) (by omega))
  have Y0 := Lib.hid (show Below w.heap.size w (w.alloc (.cells #[.int .i64 z.base, .slice o nn c] 24)) from belowA _ (Below.refl _ _))
  clear ht RT hl hn
  by_cases hm : mayZ z
  · have hll : l < -900 ∨ 158311620 < l := hno.elim (fun h => absurd hm h) id
    have M1 := Lib.hid (fun W hb => c_t (MY.out W hb) hm)
    clear hno hm MY
    by_cases h1 : l < -900
    · have d1 := decide_eq_true h1
      clear hll
      go_enter Tryz.func94, Tryz.ntmps94
      go_wp2_with (go_at_call 50; ((with_reducible refine (M1.out _ Y0.out).mono ?_); rintro e w1 ⟨rfl, hb1⟩; have Y1 := Lib.hid (Y0.out.trans (hb1.mono Y0.out.size)); clear hb1))
      go_ret3
      exact ⟨rfl, Y1.out⟩
    · have h2 : 158311620 < l := by omega
      have d1 := decide_eq_false h1
      have d2 := decide_eq_true h2
      clear hll
      go_enter Tryz.func94, Tryz.ntmps94
      go_wp2_with (go_at_call 50; ((with_reducible refine (M1.out _ Y0.out).mono ?_); rintro e w1 ⟨rfl, hb1⟩; have Y1 := Lib.hid (Y0.out.trans (hb1.mono Y0.out.size)); clear hb1))
      go_ret3
      exact ⟨rfl, Y1.out⟩
  · have M1 := Lib.hid (fun W hb => c_f (MY.out W hb) hm)
    clear hno hm MY
    go_enter Tryz.func94, Tryz.ntmps94
    go_wp2_with (go_at_call 50; ((with_reducible refine (M1.out _ Y0.out).mono ?_); rintro e w1 ⟨rfl, hb1⟩; have Y1 := Lib.hid (Y0.out.trans (hb1.mono Y0.out.size)); clear hb1))
    go_ret3
    exact ⟨rfl, Y1.out⟩
end Go.Proofs.YtechgcjdigpglaaGreat
