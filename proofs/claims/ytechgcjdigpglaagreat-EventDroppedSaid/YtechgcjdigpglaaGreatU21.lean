/- ref02: May, Offset. Conditions: each theorem's own. ref02: Utc. Condition: there are at most a thousand turns. -/
import Derived.Test.YtechgcjdigpglaaGreatZ7
import Derived.Test.YtechgcjdigpglaaGreatV15
import Derived.Deep.DeepCutAuto
namespace Go.Proofs.YtechgcjdigpglaaGreat
open Go.RowKit Go.ChangeShapes Go.WideShapes Go.Deep
set_option linter.all false

set_option maxRecDepth 100000 in
set_option maxHeartbeats 8000000 in
theorem refZMay_any (cs : List Value) (z : ZoneD) (w : World) (h : rZone w cs z) (hn : z.turns.length ≤ 1000) :
    Calls Tryz.prog 21 #[.agg cs.toArray] w fun e w' => e = .returned (.bool (dec (mayZ z))) ∧ Below w.heap.size w w' := by
  obtain ⟨t, rfl, _, ht⟩ := h
  obtain ⟨o, n, c, rfl, hl, _, _, RT⟩ := ht.open
  have HB := Lib.hid (show Below w.heap.size w (w.alloc (.cells #[.int .i64 z.base, .slice o n c] 24)) from belowA _ (Below.refl _ _))
  have HR := Lib.hid RT
  have HL := Lib.hid hl
  have hn1 : n ≤ 1000 := by omega
  clear ht RT hn
  by_cases hb : z.base < -900
  · have d1 := decide_eq_true hb
    have hno := Lib.hid (show ¬ mayZ z from fun h => by obtain ⟨h1, h2, _⟩ := h; omega)
    clear hb hl
    go_enter Tryz.func21, Tryz.ntmps21
    go_wp2_with fail
    go_ret
    exact ⟨ret_f hno.out, HB.out⟩
  · by_cases hb2 : 900 < z.base
    · have d1 := decide_eq_true hb2
      have d0 := decide_eq_false hb
      have hno := Lib.hid (show ¬ mayZ z from fun h => by obtain ⟨h1, h2, _⟩ := h; omega)
      clear hb hl hb2
      go_enter Tryz.func21, Tryz.ntmps21
      go_wp2_with fail
      go_ret
      exact ⟨ret_f hno.out, HB.out⟩
    · by_cases h7 : 700 < n
      · have h7' : (700 : Int) < (n : Int) := by omega
        have hno := Lib.hid (show ¬ mayZ z from fun h => by obtain ⟨_, _, h3, _⟩ := h; omega)
        have d0 := decide_eq_false hb
        have d1 := decide_eq_false hb2
        clear hb hl h7 hb2
        go_enter Tryz.func21, Tryz.ntmps21
        go_wp2_with fail
        go_ret
        exact ⟨ret_f hno.out, HB.out⟩
      · have h7' : ¬ (700 : Int) < (n : Int) := by omega
        have HBASE := Lib.hid (And.intro hb hb2)
        have HN7 := Lib.hid h7
        have d0 := decide_eq_false hb
        have d1 := decide_eq_false hb2
        clear hb hl hb2 h7
        go_enter Tryz.func21, Tryz.ntmps21
        go_wp2_with fail
        go_loopw [3, 23] (fun la i wr => ∃ (k : Nat) (L : Int), k ≤ n ∧ i = .int .i64 (k : Nat) ∧ la = .int .i64 L ∧ -2880 ≤ L ∧ L ≤ 158310720 ∧ Hid ((k = 0 ∧ L = -2880) ∨ ∃ y, z.turns[k - 1]? = some y ∧ 1 ≤ k ∧ L = y.at_) ∧ Hid (Below w.heap.size w wr) ∧ Hid (BxAt w.heap.size #[.int .i64 z.base, .slice o n c] wr) ∧ Hid (∀ (i : Nat) t, i < k → z.turns[i]? = some t → turnOne t) ∧ Hid (gapTo z.turns k)) (fun _ i _ => n - (intOf i).toNat)
        case atStart => exact ⟨0, -2880, Nat.zero_le _, rfl, rfl, by omega, by omega, .inl ⟨rfl, rfl⟩, HB, Lib.hid (BxAt.new w _ 24), fun i t h => absurd h (Nat.not_lt_zero _), fun i a b h => absurd h (by omega)⟩
        case round =>
          obtain ⟨k, L, hkn, rfl, rfl, hL0, hL1, HLA, HW, HX, I1, I2⟩ := hrel
          obtain ⟨wl, rfl⟩ : ∃ x, x = wr := ⟨_, rfl⟩
          have kA := HX.out.cell
          by_cases hlt : k < n
          · have hlt' : (k : Int) < (n : Int) := by omega
            obtain ⟨x, a1, cs1, hx, rfl, q1, ⟨rfl, wfx, _⟩, q0, q2⟩ := HR.out.elem HW.out k hlt
            have hwx : x.at_ ≤ 9223372036854775807 := wfx.2
            clear wfx
            have e0 := q0 (by decide)
            have e1 := q2 1 (by decide) (by decide)
            simp only [List.getElem?_cons_zero, List.getElem?_cons_succ] at e0 e1
            have hnf : w.heap.size < wl.heap.size := HX.out.lt
            have HXX := Lib.hid hx
            have HB2 := Lib.hid (fun (ob : Obj) => HW.out.alloc HW.out.size ob)
            have HX2 := Lib.hid (HX.out.below (belowA (.cells #[.int .i64 x.at_, .int .i64 x.off] 95) (Below.refl wl.heap.size wl)))
            have ha1 : (a1.add (k * 2)).block < wl.heap.size := World.block_lt_of_cell? _ _ e0
            clear q0 q1 q2 hx
            by_cases hone : turnOne x ∧ 2880 ≤ x.at_ - L
            · have J1 := Lib.hid (show ∀ (i : Nat) t, i < k + 1 → z.turns[i]? = some t → turnOne t from fun i t hi ht => by
                by_cases e : i = k
                · subst e; rw [HXX.out] at ht; cases ht; exact hone.1
                · exact I1.out i t (by omega) ht)
              have J2 := Lib.hid (show gapTo z.turns (k + 1) from fun i a b hi ha hb => by
                by_cases e : i + 1 = k
                · rw [e, HXX.out] at hb
                  cases hb
                  rcases HLA.out with ⟨h0, _⟩ | ⟨y, hy, h1, h2⟩
                  · omega
                  · rw [show i = k - 1 by omega, hy] at ha; cases ha; have := hone.2; omega
                · exact I2.out i a b (by omega) ha hb)
              have J3 := Lib.hid (show (k + 1 = 0 ∧ x.at_ = -2880) ∨ ∃ y, z.turns[k + 1 - 1]? = some y ∧ 1 ≤ k + 1 ∧ x.at_ = y.at_ from .inr ⟨x, HXX.out, by omega, rfl⟩)
              obtain ⟨⟨o1, o2, o3, o4⟩, o5⟩ := hone
              have c1 := decide_eq_false (p := x.off < -900) (by omega)
              have c2 := decide_eq_false (p := 900 < x.off) (by omega)
              have c3 := decide_eq_false (p := x.at_ < 0) (by omega)
              have c4 := decide_eq_false (p := 158310720 < x.at_) (by omega)
              have c5 := decide_eq_false (p := x.at_ - L < 2880) (by omega)
              have hw1 : wrap64 (x.at_ - L) = x.at_ - L := by unfold wrap64; omega
              have hw2 : IntKind.i64.wrap (x.at_ - L) = x.at_ - L := by rw [IntKind.wrap_i64]; omega
              go_wp2_with fail
              go_roundw
              case measure => simp [intOf]; omega
              case rel => exact ⟨k + 1, x.at_, by omega, by go_num, rfl, by omega, by omega, J3.out, HB2.out _, HX2.out, J1.out, J2.out⟩
            · have HNO := Lib.hid (show ¬ mayZ z from fun h => hone ⟨h.2.2.2.1 x (List.mem_of_getElem? HXX.out), by
                have hx1 := h.2.2.2.1 x (List.mem_of_getElem? HXX.out)
                unfold turnOne at hx1
                rcases HLA.out with ⟨h0, h1⟩ | ⟨y, hy, h1, h2⟩
                · omega
                · have := h.2.2.2.2 (k - 1) y x (by rw [HL.out]; omega) hy (by rw [show k - 1 + 1 = k by omega]; exact HXX.out)
                  omega⟩)
              unfold turnOne at hone
              by_cases o1 : x.off < -900
              · have c1 := decide_eq_true o1
                clear hone o1
                go_wp2_with fail
                go_ret
                exact ⟨ret_f HNO.out, HB2.out _⟩
              · have c1 := decide_eq_false o1
                by_cases o2 : 900 < x.off
                · have c2 := decide_eq_true o2
                  clear hone o1 o2
                  go_wp2_with fail
                  go_ret
                  exact ⟨ret_f HNO.out, HB2.out _⟩
                · have c2 := decide_eq_false o2
                  by_cases o3 : x.at_ < 0
                  · have c3 := decide_eq_true o3
                    clear hone o1 o2 o3
                    go_wp2_with fail
                    go_ret
                    exact ⟨ret_f HNO.out, HB2.out _⟩
                  · have c3 := decide_eq_false o3
                    by_cases o4 : 158310720 < x.at_
                    · have c4 := decide_eq_true o4
                      clear hone o1 o2 o3 o4
                      go_wp2_with fail
                      go_ret
                      exact ⟨ret_f HNO.out, HB2.out _⟩
                    · have c4 := decide_eq_false o4
                      have c5 := decide_eq_true (p := x.at_ - L < 2880) (by omega)
                      have hw1 : wrap64 (x.at_ - L) = x.at_ - L := by unfold wrap64; omega
                      have hw2 : IntKind.i64.wrap (x.at_ - L) = x.at_ - L := by rw [IntKind.wrap_i64]; omega
                      clear hone o1 o2 o3 o4
                      go_wp2_with fail
                      go_ret
                      exact ⟨ret_f HNO.out, HB2.out _⟩
          · obtain rfl : n = k := by omega
            have hyes := Lib.hid (show mayZ z from ⟨by have := HBASE.out; omega, by have := HBASE.out; omega, by have := HL.out; have := HN7.out; omega, fun t ht => by
              obtain ⟨i, hi⟩ := List.getElem?_of_mem ht
              exact I1.out i t (by have := (List.getElem?_eq_some_iff.1 hi).1; have := HL.out; omega) hi, by rw [HL.out]; exact I2.out⟩)
            go_wp2_with fail
            go_ret
            exact ⟨ret_t hyes.out, HW.out⟩

theorem offTo_step {z : ZoneD} (hm : mayZ z) {u : Int} {k : Nat} {x : TurnD} (hx : z.turns[k]? = some x) : addedZ z (min (k + 1) (behindZ z.turns u)) = if x.at_ ≤ u then x.off else addedZ z (min k (behindZ z.turns u)) := by
  have hb := behind_lt hm.rises hx u
  by_cases h : x.at_ ≤ u
  · rw [if_pos h, show min (k + 1) (behindZ z.turns u) = k + 1 by have := hb.2 h; omega]
    unfold addedZ
    rw [if_neg (by omega), show k + 1 - 1 = k from rfl, hx]; rfl
  · rw [if_neg h, show min (k + 1) (behindZ z.turns u) = min k (behindZ z.turns u) by have : ¬ k < behindZ z.turns u := fun q => h (hb.1 q); omega]

set_option maxHeartbeats 4000000 in
theorem refOff_any (cs : List Value) (z : ZoneD) (u : Int) (w : World) (h : rZone w cs z) (hm : mayZ z) :
    Calls Tryz.prog 62 #[.agg cs.toArray, .int .i64 u] w fun e w' => e = .returned (.int .i64 (offZ z u)) ∧ Below w.heap.size w w' := by
  obtain ⟨t, rfl, _, ht⟩ := h
  obtain ⟨o, n, c, rfl, hl, _, _, RT⟩ := ht.open
  have HB := Lib.hid (show Below w.heap.size w (w.alloc (.cells #[.int .i64 z.base, .slice o n c] 24)) from belowA _ (Below.refl _ _))
  have HX := Lib.hid (BxAt.new w #[.int .i64 z.base, .slice o n c] 24)
  have HR := Lib.hid RT
  have HL := Lib.hid hl
  have HM := Lib.hid hm
  have hn1 : n ≤ 700 := by have := hm.2.2.1; omega
  have H0 := Lib.hid (show addedZ z 0 = z.base by unfold addedZ; rw [if_pos rfl])
  clear ht RT hl hm
  have kA := HX.out.cell
  go_enter Tryz.func62, Tryz.ntmps62
  go_wp2_with fail
  go_loopw [5, 12] (fun v i wr => ∃ k : Nat, k ≤ n ∧ i = .int .i64 (k : Nat) ∧ v = .int .i64 (addedZ z (min k (behindZ z.turns u))) ∧ wr = w.alloc (.cells #[.int .i64 z.base, .slice o n c] 24)) (fun _ i _ => n - (intOf i).toNat)
  case atStart => exact ⟨0, Nat.zero_le _, rfl, by rw [Nat.zero_min, H0.out], rfl⟩
  case round =>
    obtain ⟨k, hkn, rfl, rfl, rfl⟩ := hrel
    by_cases hlt : k < n
    · have hlt' : (k : Int) < (n : Int) := by omega
      obtain ⟨x, a1, cs1, hx, rfl, q1, ⟨rfl, _, _⟩, q0, q2⟩ := HR.out.elem HB.out k hlt
      have e0 := q0 (by decide)
      have e1 := q2 1 (by decide) (by decide)
      simp only [List.getElem?_cons_zero, List.getElem?_cons_succ] at e0 e1
      have HS := Lib.hid (offTo_step HM.out (u := u) hx)
      clear q0 q1 q2 hx
      by_cases hu : x.at_ ≤ u
      · have d1 := decide_eq_true hu
        have HS2 := Lib.hid (show addedZ z (min (k + 1) (behindZ z.turns u)) = x.off by rw [HS.out, if_pos hu])
        clear hu
        go_wp2_with fail
        go_roundw
        case measure => simp [intOf]; omega
        case rel => exact ⟨k + 1, by omega, by go_num, by rw [HS2.out], by trivial⟩
      · have d1 := decide_eq_false hu
        have HS2 := Lib.hid (show addedZ z (min (k + 1) (behindZ z.turns u)) = addedZ z (min k (behindZ z.turns u)) by rw [HS.out, if_neg hu])
        clear hu
        go_wp2_with fail
        go_roundw
        case measure => simp [intOf]; omega
        case rel => exact ⟨k + 1, by omega, by go_num, by rw [HS2.out], by trivial⟩
    · obtain rfl : n = k := by omega
      have HE := Lib.hid (show addedZ z (min n (behindZ z.turns u)) = offZ z u by unfold offZ; rw [show min n (behindZ z.turns u) = behindZ z.turns u by have := behindZ_le z.turns u; have := HL.out; omega])
      rw [HE.out]
      go_wp2_with fail
      go_ret
      exact ⟨rfl, HB.out⟩
end Go.Proofs.YtechgcjdigpglaaGreat
namespace Go.Proofs.YtechgcjdigpglaaGreat
open Go.RowKit Go.ChangeShapes Go.WideShapes Go.Deep
set_option linter.all false

def refOk (z : ZoneD) (l : Int) : Prop := mayZ z ∧ -900 ≤ l ∧ l ≤ 158311620 ∧ 0 ≤ atZ z l ∧ atZ z l ≤ 158310720
/-- What the document's Utc answers. -/
noncomputable def refUV (z : ZoneD) (l k : Int) : Value := if dec (refOk z l) = true then .agg #[.int .i64 (atZ z l), .int .i64 k, .bool false] else .agg #[.int .i64 0, .int .i64 0, .bool true]
theorem refUV_t {z : ZoneD} {l k : Int} (h : refOk z l) : refUV z l k = .agg #[.int .i64 (atZ z l), .int .i64 k, .bool false] := by unfold refUV; rw [if_pos (dec_t h)]
theorem refUV_f {z : ZoneD} {l k : Int} (h : ¬ refOk z l) : refUV z l k = .agg #[.int .i64 0, .int .i64 0, .bool true] := by unfold refUV; rw [if_neg (by rw [dec_f h]; decide)]

/-- What a scan of minutes has found. -/
def hitsTo (z : ZoneD) (l : Int) (j : Nat) (m A : Int) : Prop :=
  (m = 0 ∧ A = 0 ∧ ∀ i : Nat, i < j → (l - 900 + i) + offZ z (l - 900 + i) ≠ l) ∨
  (1 ≤ m ∧ m ≤ j ∧ A + offZ z A = l ∧ ∀ u, l - 900 ≤ u → u < A → u + offZ z u ≠ l)
theorem hits_at {z : ZoneD} {l m A : Int} (hm : mayZ z) (h : hitsTo z l 1801 m A) (h1 : m ≠ 0) : A = atZ z l := by
  rcases h with ⟨h, _⟩ | ⟨_, _, h3, h4⟩
  · exact absurd h h1
  · refine UtcIs.uniq hm (.inl ⟨h3, fun u hu he => ?_⟩) (atZ_is hm l)
    exact h4 u (hit_near hm he).1 hu he
theorem hits_none {z : ZoneD} {l m A : Int} (hm : mayZ z) (h : hitsTo z l 1801 m A) (h1 : m = 0) : A = 0 ∧ ∀ u, u + offZ z u ≠ l := by
  rcases h with ⟨_, h2, h3⟩ | ⟨h, _⟩
  · refine ⟨h2, fun u he => ?_⟩
    have := hit_near hm he
    have h4 := h3 (u - (l - 900)).toNat (by omega)
    rw [show l - 900 + ((u - (l - 900)).toNat : Int) = u by omega] at h4
    exact h4 he
  · omega
def leapAt (z : ZoneD) (l : Int) (i : Nat) (t : TurnD) : Prop := t.at_ + addedZ z i ≤ l ∧ l < t.at_ + addedZ z (i + 1)
theorem leap_at {z : ZoneD} {l : Int} {i : Nat} {t : TurnD} (hm : mayZ z) (hno : ∀ u, u + offZ z u ≠ l) (ht : z.turns[i]? = some t) (h : leapAt z l i t) : l - addedZ z i = atZ z l :=
  UtcIs.uniq hm (.inr ⟨hno, i, t, ht, h.1, h.2, rfl⟩) (atZ_is hm l)
/-- What a scan of turns has found. -/
def leapsTo (z : ZoneD) (l : Int) (k : Nat) (A : Int) : Prop := (A = 0 ∧ ∀ (i : Nat) t, i < k → z.turns[i]? = some t → ¬ leapAt z l i t) ∨ A = atZ z l
theorem added_next {z : ZoneD} {k : Nat} {x : TurnD} (hx : z.turns[k]? = some x) : addedZ z (k + 1) = x.off := by
  unfold addedZ; rw [if_neg (by omega), show k + 1 - 1 = k from rfl, hx]; rfl

set_option maxRecDepth 100000 in
set_option maxHeartbeats 16000000 in
theorem refUtc_any (cs : List Value) (z : ZoneD) (l : Int) (w : World) (h : rZone w cs z) (hn : z.turns.length ≤ 1000) :
    Calls Tryz.prog 20 #[.agg cs.toArray, .int .i64 l] w fun e w' => (∃ k : Int, e = .returned (refUV z l k)) ∧ Below w.heap.size w w' := by
  have SR := Lib.hid h
  obtain ⟨t, rfl, _, ht⟩ := h
  obtain ⟨o, n, c, rfl, hl, _, _, RT⟩ := ht.open
  have HB := Lib.hid (show Below w.heap.size w ((w.alloc (.cells #[.int .i64 z.base, .slice o n c] 24)).alloc (.cells #[.int .i64 0, .int .i64 0, .bool false] 46)) from belowA _ (belowA _ (Below.refl _ _)))
  have b1 := BxM.new w #[.int .i64 z.base, .slice o n c] 24
  have b2 := BxM.new (w.alloc (.cells #[.int .i64 z.base, .slice o n c] 24)) #[.int .i64 0, .int .i64 0, .bool false] 46
  rw [show (w.alloc (.cells #[.int .i64 z.base, .slice o n c] 24)).heap.size = w.heap.size + 1 by simp] at b2
  have X1 := Lib.hid (b1.alloc (.cells #[.int .i64 0, .int .i64 0, .bool false] 46))
  have X2 := Lib.hid b2
  have CM := Lib.hid (fun W (hb : Below w.heap.size w W) => refZMay_any _ z W (SR.out.later hb) hn)
  have HR := Lib.hid RT
  have HL := Lib.hid hl
  clear b1 b2 ht RT
  by_cases hok : mayZ z ∧ -900 ≤ l ∧ l ≤ 158311620
  · obtain ⟨hm, hl0, hl1⟩ := hok
    have C := Lib.hid (fun W hb => c_t (CM.out W hb) hm)
    have HM := Lib.hid hm
    have CO := Lib.hid (fun u W (hb : Below w.heap.size w W) => refOff_any _ z u W (SR.out.later hb) hm)
    have HOFF := Lib.hid (fun u => hm.off u)
    have d1 := decide_eq_false (p := l < -900) (by omega)
    have d2 := decide_eq_false (p := 158311620 < l) (by omega)
    have hw1 : wrap64 (l - 900) = l - 900 := by unfold wrap64; omega
    have hw2 : IntKind.i64.wrap (l - 900) = l - 900 := by rw [IntKind.wrap_i64]; omega
    have hw3 : wrap64 (l + 900) = l + 900 := by unfold wrap64; omega
    have hw4 : IntKind.i64.wrap (l + 900) = l + 900 := by rw [IntKind.wrap_i64]; omega
    have hn7 : n ≤ 700 := by have := hm.2.2.1; omega
    clear CM hm hl hn
    go_enter Tryz.func20, Tryz.ntmps20
    go_wp2_with fail
    (with_reducible refine (C.out _ HB.out).mono ?_)
    rintro q w1 ⟨rfl, hb1⟩
    have Y1 := Lib.hid (X1.out.below hb1)
    have Y2 := Lib.hid (X2.out.below hb1)
    have HB1 := Lib.hid (HB.out.trans (hb1.mono HB.out.size))
    clear hb1
    go_wp2_with fail
    obtain ⟨b5, hb5⟩ : ∃ b, b = w1.heap.size := ⟨_, rfl⟩
    have Z1 := Lib.hid (Y1.out.alloc (.cells #[.int .i64 0, .int .i64 1, .bool false] 46))
    have Z2 := Lib.hid (Y2.out.alloc (.cells #[.int .i64 0, .int .i64 1, .bool false] 46))
    have Z5 := Lib.hid (BxM.new w1 #[.int .i64 0, .int .i64 1, .bool false] 46)
    have HB5 := Lib.hid (HB1.out.alloc HB1.out.size (.cells #[.int .i64 0, .int .i64 1, .bool false] 46))
    have hwb : w.heap.size + 1 + 1 ≤ b5 := by have := Y2.out.lt; omega
    rw [← hb5] at Z5 ⊢
    have HB5E := Lib.hid hb5
    clear hb5
    go_loopw [6, 7] (fun m u wr => ∃ (j : Nat) (M A : Int), j ≤ 1801 ∧ u = .int .i64 (l - 900 + j) ∧ m = .int .i64 M ∧ 0 ≤ M ∧ M ≤ j ∧ Hid (hitsTo z l j M A) ∧ Hid (Below w.heap.size w wr) ∧ Hid (BxM w.heap.size #[.int .i64 z.base, .slice o n c] 24 wr) ∧ Hid (BxM (w.heap.size + 1) #[.int .i64 0, .int .i64 0, .bool false] 46 wr) ∧ Hid (BxM b5 #[.int .i64 A, .int .i64 1, .bool false] 46 wr)) (fun _ u _ => (l + 901 - intOf u).toNat)
    case atStart => exact ⟨0, 0, 0, by omega, by congr 1; omega, rfl, by omega, by omega, .inl ⟨rfl, rfl, fun i h => absurd h (Nat.not_lt_zero _)⟩, HB5, Z1, Z2, Z5⟩
    case round =>
      clear Z1 Z2 Z5 Y1 Y2 HB5
      obtain ⟨j, M, A, hj, rfl, rfl, hM0, hM1, HI, HW, Z1, Z2, Z5⟩ := hrel
      obtain ⟨wl, rfl⟩ : ∃ x, x = wr := ⟨_, rfl⟩
      have k1 := Z1.out.cell
      by_cases hlt : j ≤ 1800
      · have d3 : decide (l - 900 + (j : Int) ≤ l + 900) = true := decide_eq_true (by omega)
        have C1 := Lib.hid (CO.out (l - 900 + j) wl HW.out)
        obtain ⟨off, hoff⟩ : ∃ off, off = offZ z (l - 900 + j) := ⟨_, rfl⟩
        have HO := Lib.hid hoff
        have hob := HOFF.out (l - 900 + j)
        rw [← hoff] at hob C1
        obtain ⟨ho0, ho1⟩ := hob
        have hv1 : wrap64 (l - 900 + (j : Int) + off) = l - 900 + j + off := by unfold wrap64; omega
        have hv2 : IntKind.i64.wrap (l - 900 + (j : Int) + off) = l - 900 + j + off := by rw [IntKind.wrap_i64]; omega
        have hv3 : wrap64 (l - 900 + (j : Int) + 1) = l - 900 + (j : Int) + 1 := by unfold wrap64; omega
        have hv5 : wrap64 (M + 1) = M + 1 := by unfold wrap64; omega
        clear hoff
        by_cases hhit : l - 900 + (j : Int) + off = l
        · have e1 : (l - 900 + (j : Int) + off == l) = true := by rw [beq_iff_eq]; exact hhit
          have HH := Lib.hid (show (l - 900 + (j : Int)) + offZ z (l - 900 + j) = l by rw [← HO.out]; exact hhit)
          by_cases hm0 : M = 0
          · have e2 : (M == 0) = true := by rw [beq_iff_eq]; exact hm0
            have J := Lib.hid (show hitsTo z l (j + 1) (M + 1) (l - 900 + j) from .inr ⟨by omega, by omega, HH.out, fun u h1 h2 => by
              rcases HI.out with ⟨_, _, h⟩ | ⟨h, _⟩
              · have := h (u - (l - 900)).toNat (by omega)
                rw [show l - 900 + ((u - (l - 900)).toNat : Int) = u by omega] at this
                exact this
              · omega⟩)
            clear hhit hm0
            go_wp2_with fail
            (with_reducible refine C1.out.mono ?_)
            rintro q w2 ⟨rfl, hb2⟩
            have V1 := Lib.hid (Z1.out.below hb2)
            have V2 := Lib.hid (Z2.out.below hb2)
            have V5 := Lib.hid (Z5.out.below hb2)
            have HB2 := Lib.hid (HW.out.trans (hb2.mono HW.out.size))
            have k5 := V5.out.cell
            have f5 := V5.out.frz
            have l5 : b5 < w2.heap.size := V5.out.lt
            clear hb2
            go_wp2_with fail
            go_roundw
            case measure => simp [intOf]; omega
            case rel => exact ⟨j + 1, M + 1, l - 900 + j, by omega, by go_num, by go_num, by omega, by omega, J, HB2.out.setCell (by show w.heap.size ≤ b5; omega) _, V1.out.other (by show w.heap.size ≠ b5; omega) _, V2.out.other (by show w.heap.size + 1 ≠ b5; omega) _, V5.out.set 0 _⟩
          · have e2 : (M == 0) = false := by rw [beq_eq_false_iff_ne]; exact hm0
            have J := Lib.hid (show hitsTo z l (j + 1) (M + 1) A from by
              rcases HI.out with ⟨h, _⟩ | ⟨h1, h2, h3⟩
              · exact absurd h hm0
              · exact .inr ⟨by omega, by omega, h3⟩)
            clear hhit hm0
            go_wp2_with fail
            (with_reducible refine C1.out.mono ?_)
            rintro q w2 ⟨rfl, hb2⟩
            have V1 := Lib.hid (Z1.out.below hb2)
            have V2 := Lib.hid (Z2.out.below hb2)
            have V5 := Lib.hid (Z5.out.below hb2)
            have HB2 := Lib.hid (HW.out.trans (hb2.mono HW.out.size))
            clear hb2
            go_wp2_with fail
            go_roundw
            case measure => simp [intOf]; omega
            case rel => exact ⟨j + 1, M + 1, A, by omega, by go_num, by go_num, by omega, by omega, J, HB2, V1, V2, V5⟩
        · have e1 : (l - 900 + (j : Int) + off == l) = false := by rw [beq_eq_false_iff_ne]; exact hhit
          have J := Lib.hid (show hitsTo z l (j + 1) M A from by
            rcases HI.out with ⟨h1, h2, h3⟩ | ⟨h1, h2, h3⟩
            · refine .inl ⟨h1, h2, fun i hi => ?_⟩
              by_cases e : i = j
              · subst e; rw [← HO.out]; exact hhit
              · exact h3 i (by omega)
            · exact .inr ⟨h1, by omega, h3⟩)
          clear hhit
          go_wp2_with fail
          (with_reducible refine C1.out.mono ?_)
          rintro q w2 ⟨rfl, hb2⟩
          have V1 := Lib.hid (Z1.out.below hb2)
          have V2 := Lib.hid (Z2.out.below hb2)
          have V5 := Lib.hid (Z5.out.below hb2)
          have HB2 := Lib.hid (HW.out.trans (hb2.mono HW.out.size))
          clear hb2
          go_wp2_with fail
          go_roundw
          case measure => simp [intOf]; omega
          case rel => exact ⟨j + 1, M, A, by omega, by go_num, rfl, by omega, by omega, J, HB2, V1, V2, V5⟩
      · obtain rfl : j = 1801 := by omega
        have d3 : decide (l - 900 + ((1801 : Nat) : Int) ≤ l + 900) = false := decide_eq_false (by omega)
        have d3' : decide (l - 900 + (1801 : Int) ≤ l + 900) = false := decide_eq_false (by omega)
        have HNO := Lib.hid (fun h0 : M = 0 => hits_none HM.out HI.out h0)
        have HAT := Lib.hid (fun h0 : M ≠ 0 => hits_at HM.out HI.out h0)
        have k5 := Z5.out.cell
        have f5 := Z5.out.frz
        have l5 : b5 < wl.heap.size := Z5.out.lt
        go_upto_if 45 with fail
        go_cut [] (fun W => ∃ kk : Int, Hid (Below w.heap.size w W) ∧ Hid (BxM w.heap.size #[.int .i64 z.base, .slice o n c] 24 W) ∧ Hid (BxM (w.heap.size + 1) #[.int .i64 0, .int .i64 0, .bool false] 46 W) ∧ Hid (BxM b5 #[.int .i64 A, .int .i64 kk, .bool false] 46 W))
        case first =>
          by_cases h0 : 0 < M
          · have d0 := decide_eq_true h0
            go_wp2_with fail
            go_meet
            exact ⟨0, HW.out.setCell (by show w.heap.size ≤ b5; omega) _, Z1.out.other (by show w.heap.size ≠ b5; omega) _, Z2.out.other (by show w.heap.size + 1 ≠ b5; omega) _, Z5.out.set 1 _⟩
          · have d0 := decide_eq_false h0
            go_wp2_with fail
            go_meet
            exact ⟨1, HW, Z1, Z2, Z5⟩
        case rest =>
        clear k5 f5 l5 HW Z1 Z2 Z5
        obtain ⟨kk, HW, Z1, Z2, Z5⟩ := hcut
        have k5 := Z5.out.cell
        have f5 := Z5.out.frz
        have l5 := Z5.out.lt
        go_upto_if 48 with fail
        go_cut [] (fun W => ∃ kk : Int, Hid (Below w.heap.size w W) ∧ Hid (BxM w.heap.size #[.int .i64 z.base, .slice o n c] 24 W) ∧ Hid (BxM (w.heap.size + 1) #[.int .i64 0, .int .i64 0, .bool false] 46 W) ∧ Hid (BxM b5 #[.int .i64 A, .int .i64 kk, .bool false] 46 W))
        case first =>
          by_cases h0 : 1 < M
          · have d0 := decide_eq_true h0
            go_wp2_with fail
            go_meet
            exact ⟨2, HW.out.setCell (by show w.heap.size ≤ b5; omega) _, Z1.out.other (by show w.heap.size ≠ b5; omega) _, Z2.out.other (by show w.heap.size + 1 ≠ b5; omega) _, Z5.out.set 1 _⟩
          · have d0 := decide_eq_false h0
            go_wp2_with fail
            go_meet
            exact ⟨kk, HW, Z1, Z2, Z5⟩
        case rest =>
        clear k5 f5 l5 HW Z1 Z2 Z5
        obtain ⟨kk, HW, Z1, Z2, Z5⟩ := hcut
        have k1 := Z1.out.cell
        go_wp2_with fail
        go_loopw [53] (fun i wr => ∃ (k : Nat) (A' : Int), k ≤ n ∧ i = .int .i64 (k : Nat) ∧ Hid ((M ≠ 0 ∧ A' = atZ z l) ∨ (M = 0 ∧ leapsTo z l k A')) ∧ Hid (Below w.heap.size w wr) ∧ Hid (BxM w.heap.size #[.int .i64 z.base, .slice o n c] 24 wr) ∧ Hid (BxM (w.heap.size + 1) #[.int .i64 0, .int .i64 0, .bool false] 46 wr) ∧ Hid (BxM b5 #[.int .i64 A', .int .i64 kk, .bool false] 46 wr)) (fun i _ => n - (intOf i).toNat)
        case atStart =>
          refine ⟨0, A, Nat.zero_le _, rfl, ?_, HW, Z1, Z2, Z5⟩
          by_cases h0 : M = 0
          · exact .inr ⟨h0, .inl ⟨(HNO.out h0).1, fun i t h => absurd h (Nat.not_lt_zero _)⟩⟩
          · exact .inl ⟨h0, HAT.out h0⟩
        case round =>
          clear HW Z1 Z2 Z5 k1
          obtain ⟨k, A', hk, rfl, HT, HW, Z1, Z2, Z5⟩ := hrel
          obtain ⟨wl2, rfl⟩ : ∃ x, x = wr := ⟨_, rfl⟩
          have k1 := Z1.out.cell
          have k5 := Z5.out.cell
          have f5 := Z5.out.frz
          have l5 : b5 < wl2.heap.size := Z5.out.lt
          by_cases hlt : k < n
          · have hlt' : (k : Int) < (n : Int) := by omega
            obtain ⟨x, a1, cs1, hx, rfl, q1, ⟨rfl, _, _⟩, q0, q2⟩ := HR.out.elem HW.out k hlt
            have e0 := q0 (by decide)
            have e1 := q2 1 (by decide) (by decide)
            simp only [List.getElem?_cons_zero, List.getElem?_cons_succ] at e0 e1
            have hx1 := HM.out.2.2.2.1 x (List.mem_of_getElem? hx)
            unfold turnOne at hx1
            obtain ⟨x1, x2, x3, x4⟩ := hx1
            have HX := Lib.hid hx
            have HADD := Lib.hid (And.intro (HM.out.added k (by have := HL.out; omega)) (added_next hx))
            clear q0 q1 q2 hx
            obtain ⟨ah, hah⟩ : ∃ ah, ah = addedZ z k := ⟨_, rfl⟩
            have HAH := Lib.hid hah
            go_upto_if 59 with fail
            go_cut [9] (fun v W => v = .int .i64 ah ∧ W = wl2)
            case first =>
              by_cases hk0 : k = 0
              · have d4 : ¬ (0 : Int) < (k : Int) := by omega
                have d5 : decide ((0 : Int) < (k : Int)) = false := decide_eq_false d4
                have HE := Lib.hid (show z.base = ah by rw [hah, hk0]; unfold addedZ; rw [if_pos rfl])
                clear hk0 hah
                go_wp2_with fail
                go_meet
                exact ⟨by rw [HE.out], by trivial⟩
              · have hk1 : 1 ≤ k := by omega
                have hk2 : (0 : Int) < (k : Int) := by omega
                obtain ⟨y, a2, cs2, hy, ha, q1, ⟨rfl, _, _⟩, q0, q2⟩ := HR.out.elem HW.out (k - 1) (by omega)
                cases ha
                have g0 := q0 (by decide)
                have g1 := q2 1 (by decide) (by decide)
                simp only [List.getElem?_cons_zero, List.getElem?_cons_succ] at g0 g1
                have hk3 : (0 : Int) ≤ (k : Int) - 1 := by omega
                have hk4 : (k : Int) - 1 < (n : Int) := by omega
                have hk6 : (1 : Int) ≤ (k : Int) := by omega
                have hk5 : ((k : Int) - 1).toNat = k - 1 := by omega
                have hw5 : IntKind.i64.wrap ((k : Int) - 1) = (k : Int) - 1 := by rw [IntKind.wrap_i64]; omega
                have HE := Lib.hid (show y.off = ah by rw [hah]; unfold addedZ; rw [if_neg hk0, hy]; rfl)
                clear hk0 hah q0 q1 q2 hy
                go_wp2_with fail
                go_meet
                exact ⟨by rw [HE.out], by trivial⟩
            case rest =>
            obtain ⟨rfl, rfl⟩ := hcut
            have hab := HADD.out.1
            rw [← hah] at hab
            obtain ⟨ha0, ha1⟩ := hab
            clear hah
            have hv1 : wrap64 (x.at_ + ah) = x.at_ + ah := by unfold wrap64; omega
            have hv2 : IntKind.i64.wrap (x.at_ + ah) = x.at_ + ah := by rw [IntKind.wrap_i64]; omega
            have hv3 : wrap64 (x.at_ + x.off) = x.at_ + x.off := by unfold wrap64; omega
            have hv4 : IntKind.i64.wrap (x.at_ + x.off) = x.at_ + x.off := by rw [IntKind.wrap_i64]; omega
            have hv5 : wrap64 (l - ah) = l - ah := by unfold wrap64; omega
            have hv6 : IntKind.i64.wrap (l - ah) = l - ah := by rw [IntKind.wrap_i64]; omega
            have HLE := Lib.hid (show leapAt z l k x ↔ (x.at_ + ah ≤ l ∧ l < x.at_ + x.off) by unfold leapAt; rw [HADD.out.2, ← HAH.out])
            by_cases hm0 : M = 0
            · have e2 : (M == 0) = true := by rw [beq_iff_eq]; exact hm0
              have HLT := Lib.hid (HT.out.elim (fun h => absurd hm0 h.1) fun h => h.2)
              have HM0 := Lib.hid hm0
              clear hm0
              by_cases c1 : x.at_ + ah ≤ l
              · have d1 := decide_eq_true c1
                by_cases c2 : l < x.at_ + x.off
                · have d2 := decide_eq_true c2
                  have J := Lib.hid (show leapsTo z l (k + 1) (l - ah) from .inr (by rw [HAH.out]; exact leap_at HM.out (HNO.out HM0.out).2 HX.out (HLE.out.2 ⟨c1, c2⟩)))
                  clear c1 c2
                  go_wp2_with fail
                  go_quiet (fail)
                  go_wp2_with fail
                  go_roundw
                  case measure => simp [intOf]; omega
                  case rel => exact ⟨k + 1, l - ah, by omega, by go_num, .inr ⟨HM0.out, J.out⟩, (below_drewN HW.out _).setCell (by show w.heap.size ≤ b5; omega) _, (show BxM _ _ _ (World.drewN _ _) from ⟨Z1.out.heap⟩).other (by show w.heap.size ≠ b5; omega) _, (show BxM _ _ _ (World.drewN _ _) from ⟨Z2.out.heap⟩).other (by show w.heap.size + 1 ≠ b5; omega) _, (show BxM _ _ _ (World.drewN _ _) from ⟨Z5.out.heap⟩).set 0 _⟩
                · have d2 := decide_eq_false c2
                  have J := Lib.hid (show leapsTo z l (k + 1) A' from HLT.out.elim (fun h => .inl ⟨h.1, fun i t hi ht => by
                    by_cases e : i = k
                    · subst e; rw [HX.out] at ht; cases ht; exact fun q => c2 (HLE.out.1 q).2
                    · exact h.2 i t (by omega) ht⟩) .inr)
                  clear c1 c2
                  go_wp2_with fail
                  go_quiet (fail)
                  go_wp2_with fail
                  go_roundw
                  case measure => simp [intOf]; omega
                  case rel => exact ⟨k + 1, A', by omega, by go_num, .inr ⟨HM0.out, J.out⟩, below_drewN HW.out _, ⟨Z1.out.heap⟩, ⟨Z2.out.heap⟩, ⟨Z5.out.heap⟩⟩
              · have d1 := decide_eq_false c1
                have J := Lib.hid (show leapsTo z l (k + 1) A' from HLT.out.elim (fun h => .inl ⟨h.1, fun i t hi ht => by
                  by_cases e : i = k
                  · subst e; rw [HX.out] at ht; cases ht; exact fun q => c1 (HLE.out.1 q).1
                  · exact h.2 i t (by omega) ht⟩) .inr)
                clear c1
                go_wp2_with fail
                go_quiet (fail)
                go_wp2_with fail
                go_roundw
                case measure => simp [intOf]; omega
                case rel => exact ⟨k + 1, A', by omega, by go_num, .inr ⟨HM0.out, J.out⟩, below_drewN HW.out _, ⟨Z1.out.heap⟩, ⟨Z2.out.heap⟩, ⟨Z5.out.heap⟩⟩
            · have e2 : (M == 0) = false := by rw [beq_eq_false_iff_ne]; exact hm0
              have J := Lib.hid (HT.out.elim (fun h => h) fun h => absurd h.1 hm0)
              clear hm0
              go_wp2_with fail
              go_quiet (fail)
              go_wp2_with fail
              go_roundw
              case measure => simp [intOf]; omega
              case rel => exact ⟨k + 1, A', by omega, by go_num, .inl J.out, below_drewN HW.out _, ⟨Z1.out.heap⟩, ⟨Z2.out.heap⟩, ⟨Z5.out.heap⟩⟩
          · obtain rfl : n = k := by omega
            have hA : A' = atZ z l := by
              rcases HT.out with ⟨_, h⟩ | ⟨h0, h⟩
              · exact h
              · rcases h with ⟨_, h⟩ | h
                · obtain ⟨i, t, a1, a2, a3, _⟩ := jump_ex HM.out (HNO.out h0).2
                  exact absurd ⟨a2, a3⟩ (h i t (by have := (List.getElem?_eq_some_iff.1 a1).1; have := HL.out; omega) a1)
                · exact h
            have HA := Lib.hid hA
            have k2 := Z2.out.cell
            have f2 := Z2.out.frz
            have l2 : w.heap.size + 1 < wl2.heap.size := Z2.out.lt
            have hne : b5 ≠ w.heap.size + 1 := by omega
            clear hA HT
            by_cases c1 : A' < 0
            · have d1 := decide_eq_true c1
              have HV := Lib.hid (show refUV z l 0 = .agg #[.int .i64 0, .int .i64 0, .bool true] from refUV_f fun h => by have := h.2.2.2; rw [← HA.out] at this; omega)
              clear c1
              go_wp2_with fail
              refine bodyPost_ret (v := .agg #[.int .i64 0, .int .i64 0, .bool true]) ?_ rfl ⟨⟨0, by rw [HV.out]⟩, ?_⟩
              · simp [results, Tryz.results20, go_sem, k2]
              · repeat (first | exact HW.out | refine Below.setCell ?_ (by show w.heap.size ≤ w.heap.size + 1; omega) _)
            · have d1 := decide_eq_false c1
              by_cases c2 : 158310720 < A'
              · have d2 := decide_eq_true c2
                have HV := Lib.hid (show refUV z l 0 = .agg #[.int .i64 0, .int .i64 0, .bool true] from refUV_f fun h => by have := h.2.2.2; rw [← HA.out] at this; omega)
                clear c1 c2
                go_wp2_with fail
                refine bodyPost_ret (v := .agg #[.int .i64 0, .int .i64 0, .bool true]) ?_ rfl ⟨⟨0, by rw [HV.out]⟩, ?_⟩
                · simp [results, Tryz.results20, go_sem, k2]
                · repeat (first | exact HW.out | refine Below.setCell ?_ (by show w.heap.size ≤ w.heap.size + 1; omega) _)
              · have d2 := decide_eq_false c2
                have HV := Lib.hid (show refUV z l kk = .agg #[.int .i64 A', .int .i64 kk, .bool false] from by rw [HA.out]; exact refUV_t ⟨HM.out, hl0, hl1, by rw [← HA.out]; omega, by rw [← HA.out]; omega⟩)
                clear c1 c2
                go_wp2_with fail
                refine bodyPost_ret (v := .agg #[.int .i64 A', .int .i64 kk, .bool false]) ?_ rfl ⟨⟨kk, by rw [HV.out]⟩, ?_⟩
                · simp [results, Tryz.results20, go_sem, k2]
                · repeat (first | exact HW.out | refine Below.setCell ?_ (by show w.heap.size ≤ w.heap.size + 1; omega) _)
  · have HNO := Lib.hid (show ¬ refOk z l from fun h => hok ⟨h.1, h.2.1, h.2.2.1⟩)
    have HV := Lib.hid (refUV_f (k := 0) HNO.out)
    by_cases hm : mayZ z
    · have C := Lib.hid (fun W hb => c_t (CM.out W hb) hm)
      by_cases c1 : l < -900
      · have d1 := decide_eq_true c1
        clear hok hm c1 CM hl hn
        go_enter Tryz.func20, Tryz.ntmps20
        go_wp2_with fail
        (with_reducible refine (C.out _ HB.out).mono ?_)
        rintro q w1 ⟨rfl, hb1⟩
        have k2 := (X2.out.below hb1).cell
        have f2 := (X2.out.below hb1).frz
        have l2 : w.heap.size + 1 < w1.heap.size := (X2.out.below hb1).lt
        have HB1 := Lib.hid (HB.out.trans (hb1.mono HB.out.size))
        clear hb1
        go_wp2_with fail
        refine bodyPost_ret (v := .agg #[.int .i64 0, .int .i64 0, .bool true]) ?_ rfl ⟨⟨0, by rw [HV.out]⟩, ?_⟩
        · simp [results, Tryz.results20, go_sem, k2]
        · repeat (first | exact HB1.out | refine Below.setCell ?_ (by show w.heap.size ≤ w.heap.size + 1; omega) _)
      · have d1 := decide_eq_false c1
        have c2 : 158311620 < l := Classical.byContradiction fun h => hok ⟨hm, by omega, by omega⟩
        have d2 := decide_eq_true c2
        clear hok hm c1 c2 CM hl hn
        go_enter Tryz.func20, Tryz.ntmps20
        go_wp2_with fail
        (with_reducible refine (C.out _ HB.out).mono ?_)
        rintro q w1 ⟨rfl, hb1⟩
        have k2 := (X2.out.below hb1).cell
        have f2 := (X2.out.below hb1).frz
        have l2 : w.heap.size + 1 < w1.heap.size := (X2.out.below hb1).lt
        have HB1 := Lib.hid (HB.out.trans (hb1.mono HB.out.size))
        clear hb1
        go_wp2_with fail
        refine bodyPost_ret (v := .agg #[.int .i64 0, .int .i64 0, .bool true]) ?_ rfl ⟨⟨0, by rw [HV.out]⟩, ?_⟩
        · simp [results, Tryz.results20, go_sem, k2]
        · repeat (first | exact HB1.out | refine Below.setCell ?_ (by show w.heap.size ≤ w.heap.size + 1; omega) _)
    · have C := Lib.hid (fun W hb => c_f (CM.out W hb) hm)
      clear hok hm CM hl hn
      go_enter Tryz.func20, Tryz.ntmps20
      go_wp2_with fail
      (with_reducible refine (C.out _ HB.out).mono ?_)
      rintro q w1 ⟨rfl, hb1⟩
      have k2 := (X2.out.below hb1).cell
      have f2 := (X2.out.below hb1).frz
      have l2 : w.heap.size + 1 < w1.heap.size := (X2.out.below hb1).lt
      have HB1 := Lib.hid (HB.out.trans (hb1.mono HB.out.size))
      clear hb1
      go_wp2_with fail
      refine bodyPost_ret (v := .agg #[.int .i64 0, .int .i64 0, .bool true]) ?_ rfl ⟨⟨0, by rw [HV.out]⟩, ?_⟩
      · simp [results, Tryz.results20, go_sem, k2]
      · repeat (first | exact HB1.out | refine Below.setCell ?_ (by show w.heap.size ≤ w.heap.size + 1; omega) _)
end Go.Proofs.YtechgcjdigpglaaGreat
