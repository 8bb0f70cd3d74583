/- recur.walker: days. Conditions: the walker lies as walk laid it. recur.walker: month. Conditions: the walker lies as walk laid it; the year is no monster. recur.walker: period. Conditions: the walker lies as walk laid it; the period is no monster. -/
import Derived.Test.YtechgcjdigpglaaGreatK6
import Derived.OwnWalk
import Derived.Deep.Cut
import Derived.Deep.RegionHeld3
import Derived.Deep.DrawnRows
namespace Go.Proofs.YtechgcjdigpglaaGreat
open Go.RowKit Go.ChangeShapes Go.WideShapes Go.Deep
set_option linter.all false

def inC (l : List Int) : List Value := l.flatMap fun d => [.int .i64 d]
theorem inC_append (a b : List Int) : inC (a ++ b) = inC a ++ inC b := by simp [inC]
theorem own_laterI {w w' : World} {B : Nat} {v : Value} {n : Nat} {e : TypeId} {z : Nat} {xs : List Value} (h : w.ownsRow B e z v n xs) (hb : Below w.heap.size w w') : w'.ownsRow B e z v n xs := by
  obtain ⟨h1, h2 | ⟨g, cap, cur, e, a1, a2, a3⟩⟩ := h
  · exact ⟨h1, .inl h2⟩
  · exact ⟨h1, .inr ⟨g, cap, cur, e, a1, (hb.block g (Array.getElem?_eq_some_iff.1 a2).1).trans a2, a3⟩⟩
theorem infoInt : (Tryz.prog.info? 3).map (fun i => (i.zero, i.size, i.bytes)) = some (some (.int .i64 0), 1, 8) := by kernel_rfl
theorem underInts : Tryz.prog.underlying 25 = some (.slice 3) := by kernel_rfl
/-- The days that were gone through, those that are right. -/
noncomputable def goneF (r : RuleD) (s a b : Int) : List Int := (ints a b).filter fun n => dec (n < 109938 ∧ okP r s n)
theorem goneF_step {r : RuleD} {s a n : Int} (h : a ≤ n) : goneF r s a (n + 1) = goneF r s a n ++ if dec (n < 109938 ∧ okP r s n) = true then [n] else [] := by
  unfold goneF
  rw [ints_snoc h, List.filter_append]
  congr 1
  cases hd : dec (n < 109938 ∧ okP r s n) <;> simp [List.filter_cons, hd]
theorem goneF_yes {r : RuleD} {s a n : Int} (h : a ≤ n) (h1 : n < 109938) (h2 : rightP r n) (h3 : usualP r s n) : goneF r s a (n + 1) = goneF r s a n ++ [n] := by
  rw [goneF_step h, if_pos (dec_t ⟨h1, h2, h3⟩)]
theorem goneF_no {r : RuleD} {s a n : Int} (h : a ≤ n) (h1 : ¬ (n < 109938 ∧ rightP r n ∧ usualP r s n)) : goneF r s a (n + 1) = goneF r s a n := by
  rw [goneF_step h, if_neg (by rw [dec_f (fun h => h1 ⟨h.1, h.2.1, h.2.2⟩)]; decide), List.append_nil]
theorem goneF_le (r : RuleD) (s a b : Int) : (goneF r s a b).length ≤ (b - a).toNat := by
  unfold goneF ints
  refine Nat.le_trans (List.length_filter_le _ _) ?_
  simp

set_option maxHeartbeats 8000000 in
set_option maxRecDepth 100000 in
theorem days_any (r : RuleD) (s mi : Int) (b : Nat) (w0 w : World) (hW : Wk r s mi b w0) (hb : Below w0.heap.size w0 w) (v : Value) (xs : List Int) (ho : w.ownsRow w0.heap.size 3 1 v xs.length (inC xs)) (hx : xs.length ≤ 1000)
    (from_ many : Int) (hs0 : 0 ≤ s) (hs1 : s < 109938) (hf0 : -10 ≤ from_) (hf1 : from_ ≤ 2000000) (hm0 : 0 ≤ many) (hm1 : many ≤ 1000) (hf : r.byMonth.length ≤ 10000 ∧ r.byMonthDay.length ≤ 10000 ∧ r.byDay.length ≤ 10000) :
    Calls Tryz.prog 219 #[.pointer (some ⟨b, 0, none⟩), v, .int .i64 from_, .int .i64 many] w fun e w' => ∃ v', e = .returned v' ∧ w'.ownsRow w0.heap.size 3 1 v' (xs ++ daysF r s from_ (from_ + many)).length (inC (xs ++ daysF r s from_ (from_ + many))) ∧ Below w0.heap.size w0 w' := by
  obtain ⟨i0, hi, hz0, hz1, hz2⟩ := info_parts infoInt
  have HW := Lib.hid hW
  obtain ⟨a, ha⟩ : ∃ a, a = max from_ 0 := ⟨_, rfl⟩
  have ha0 : 0 ≤ a := by omega
  have ha1 : a ≤ 2000000 := by omega
  have ha2 : from_ ≤ a := by omega
  have HA := Lib.hid ha
  have HO := Lib.hid ho
  have HB := Lib.hid hb
  have HDF := Lib.hid (show daysF r s from_ (from_ + many) = goneF r s a (from_ + many) by unfold daysF goneF; rw [ha])
  have RT := Lib.hid (fun n (h0 : 0 ≤ n) (h1 : n < 109938) W (hb : Below w0.heap.size w0 W) => right_any r s mi b n W (hW.later hb) h0 h1 hf)
  have US := Lib.hid (fun n (h0 : 0 ≤ n) (h1 : n < 109938) W (hb : Below w0.heap.size w0 W) => usual_any r s mi b n W (hW.later hb) hs0 hs1 h0 h1)
  clear hW hb ho hf ha
  go_enter Tryz.func219, Tryz.ntmps219
  go_upto_region 1 with (fail)
  go_cut [9] from 10 (fun x W => x = .int .i64 a ∧ W = w)
  case first =>
    by_cases hneg : from_ < 0
    all_goals
      go_wp2_with fail
      go_meet
      exact ⟨by have := HA.out; congr 1; omega, rfl⟩
  case rest =>
  obtain ⟨rfl, rfl⟩ := hcut
  go_wp2_with fail
  go_loopw [1, 9] (fun v i wr => ∃ n : Int, a ≤ n ∧ (n ≤ from_ + many ∨ n = a) ∧ i = .int .i64 n ∧ Hid (wr.ownsRow w0.heap.size 3 1 v (xs ++ goneF r s a n).length (inC (xs ++ goneF r s a n))) ∧ Hid (Below w0.heap.size w0 wr)) (fun _ i _ => (from_ + many - intOf i).toNat)
  case atStart => exact ⟨a, Int.le_refl _, .inr rfl, rfl, Lib.hid (by unfold goneF; rw [ints_none (Int.le_refl _)]; simpa using HO.out), HB⟩
  case round =>
    obtain ⟨n, hn0, hn1, rfl, HP, HB1⟩ := hrel
    obtain ⟨w1, rfl⟩ : ∃ x, x = wr := ⟨_, rfl⟩
    by_cases hlt : n < from_ + many
    · have hn2 : n ≤ 2002000 := by omega
      have hn3 : 0 ≤ n := by omega
      have hlen : xs.length + (goneF r s a n).length ≤ 10000 := by
        have := goneF_le r s a n
        omega
      have GS := Lib.hid (show a ≤ n from hn0)
      have HB2 := Lib.hid (fun W (hb : Below w1.heap.size w1 W) => HB1.out.trans (hb.mono HB1.out.size))
      by_cases h1 : n < 109938
      · have DT := Lib.hid (fun W => date_yes n hn3 h1 W)
        have R0 := Lib.hid (fun W hb => RT.out n hn3 h1 W hb)
        have U0 := Lib.hid (fun W hb => US.out n hn3 h1 W hb)
        by_cases hR : rightP r n
        · have R1 := Lib.hid (fun W hb => c_t (R0.out W hb) hR)
          by_cases hU : usualP r s n
          · have U1 := Lib.hid (fun W hb => c_t (U0.out W hb) hU)
            have HG := Lib.hid (goneF_yes (s := s) GS.out h1 hR hU)
            clear hR hU R0 U0 hn0
            go_wp2_with (first
              | (go_at_call 173; ((with_reducible refine (DT.out _).mono ?_); rintro e wd ⟨rfl, hb1⟩; have kD : ∀ j, (wd.alloc (.cells #[.int .i64 (dateY n), .int .i64 (dateM n), .int .i64 (dD n)] 131)).cell? ⟨wd.heap.size, j, none⟩ = (#[.int .i64 (dateY n), .int .i64 (dateM n), .int .i64 (dD n)] : Array Value)[j]? := (BxAt.new wd _ _).cell; have PD := Lib.hid ((own_laterI HP.out hb1).alloc (.cells #[.int .i64 (dateY n), .int .i64 (dateM n), .int .i64 (dD n)] 131)); have BD := Lib.hid ((HB2.out _ hb1).alloc (HB2.out _ hb1).size (.cells #[.int .i64 (dateY n), .int .i64 (dateM n), .int .i64 (dD n)] 131)); have hzd : wd.heap.size < (wd.alloc (.cells #[.int .i64 (dateY n), .int .i64 (dateM n), .int .i64 (dD n)] 131)).heap.size := (by simp); clear hb1))
              | (go_at_call 225; ((with_reducible refine (R1.out _ BD.out).mono ?_); rintro e w2 ⟨rfl, hb2⟩; have kE : ∀ j, w2.cell? ⟨wd.heap.size, j, none⟩ = (#[.int .i64 (dateY n), .int .i64 (dateM n), .int .i64 (dD n)] : Array Value)[j]? := (fun j => (hb2.cell (p := ⟨wd.heap.size, j, none⟩) hzd).trans (kD j)); have P2 := Lib.hid (own_laterI PD.out hb2); have B2 := Lib.hid (BD.out.trans (hb2.mono BD.out.size)); clear hb2))
              | (go_at_call 226; ((with_reducible refine (U1.out _ B2.out).mono ?_); rintro e w3 ⟨rfl, hb3⟩; have P3 := Lib.hid (own_laterI P2.out hb3); have B3 := Lib.hid (B2.out.trans (hb3.mono B2.out.size)); clear hb3))
              | (at_builtin; refine wpList_append_own (w3.alloc (.cells #[.int .i64 n] 3)) rfl (.tmp 39) (.tmp 41) 25 rfl w0.heap.size 3 i0 (.int .i64 0) 1 8 underInts hi hz0 hz1 hz2 rfl (by decide) u1 (xs.length + (goneF r s a n).length) (inC (xs ++ goneF r s a n)) rfl ((show w3.ownsRow w0.heap.size 3 1 u1 (xs.length + (goneF r s a n).length) (inC (xs ++ goneF r s a n)) by rw [← List.length_append]; exact P3.out).alloc _) ⟨w3.heap.size, 0, none⟩ 1 1 [.int .i64 n] rfl rfl ?c1 ?c2 ?c3 ?c4 ?c5 ?_))
            case c1 =>
              intro j u hj
              match j, hj with
              | 0, hj => simp at hj; subst hj; simp [Addr.add]
              | (_ + 1), hj => simp at hj
            case c2 => intro u hu; simp at hu; subst hu; rfl
            case c3 => unfold maxLen; omega
            case c4 => omega
            case c5 => have := B3.out.size; simp; omega
            intro v' w4 hown hgrow _
            have HB4 := Lib.hid ((B3.out.alloc B3.out.size (.cells #[.int .i64 n] 3)).grown hgrow (by have := B3.out.size; simp; omega) (fun j hj => (P3.out.lt j hj).1))
            have HO4 := Lib.hid (show w4.ownsRow w0.heap.size 3 1 v' (xs ++ goneF r s a (n + 1)).length (inC (xs ++ goneF r s a (n + 1))) by
              rw [HG.out, ← List.append_assoc, inC_append, List.length_append, List.length_append]
              exact hown)
            clear hown hgrow
            go_wp2_with fail
            go_roundw
            case measure => simp [intOf]; omega
            case rel => exact ⟨n + 1, by have := GS.out; omega, by omega, by go_num, HO4.out, HB4.out⟩
          · have U1 := Lib.hid (fun W hb => c_f (U0.out W hb) hU)
            have HG := Lib.hid (goneF_no (r := r) (s := s) GS.out (fun h => hU h.2.2))
            clear hR hU R0 U0 hn0
            go_wp2_with (first
              | (go_at_call 173; ((with_reducible refine (DT.out _).mono ?_); rintro e wd ⟨rfl, hb1⟩; have kD : ∀ j, (wd.alloc (.cells #[.int .i64 (dateY n), .int .i64 (dateM n), .int .i64 (dD n)] 131)).cell? ⟨wd.heap.size, j, none⟩ = (#[.int .i64 (dateY n), .int .i64 (dateM n), .int .i64 (dD n)] : Array Value)[j]? := (BxAt.new wd _ _).cell; have PD := Lib.hid ((own_laterI HP.out hb1).alloc (.cells #[.int .i64 (dateY n), .int .i64 (dateM n), .int .i64 (dD n)] 131)); have BD := Lib.hid ((HB2.out _ hb1).alloc (HB2.out _ hb1).size (.cells #[.int .i64 (dateY n), .int .i64 (dateM n), .int .i64 (dD n)] 131)); have hzd : wd.heap.size < (wd.alloc (.cells #[.int .i64 (dateY n), .int .i64 (dateM n), .int .i64 (dD n)] 131)).heap.size := (by simp); clear hb1))
              | (go_at_call 225; ((with_reducible refine (R1.out _ BD.out).mono ?_); rintro e w2 ⟨rfl, hb2⟩; have kE : ∀ j, w2.cell? ⟨wd.heap.size, j, none⟩ = (#[.int .i64 (dateY n), .int .i64 (dateM n), .int .i64 (dD n)] : Array Value)[j]? := (fun j => (hb2.cell (p := ⟨wd.heap.size, j, none⟩) hzd).trans (kD j)); have P2 := Lib.hid (own_laterI PD.out hb2); have B2 := Lib.hid (BD.out.trans (hb2.mono BD.out.size)); clear hb2))
              | (go_at_call 226; ((with_reducible refine (U1.out _ B2.out).mono ?_); rintro e w3 ⟨rfl, hb3⟩; have P3 := Lib.hid (own_laterI P2.out hb3); have B3 := Lib.hid (B2.out.trans (hb3.mono B2.out.size)); clear hb3)))
            go_roundw
            case measure => simp [intOf]; omega
            case rel => exact ⟨n + 1, by have := GS.out; omega, by omega, by go_num, by rw [HG.out]; exact P3.out, B3.out⟩
        · have R1 := Lib.hid (fun W hb => c_f (R0.out W hb) hR)
          have HG := Lib.hid (goneF_no (r := r) (s := s) GS.out (fun h => hR h.2.1))
          clear hR R0 U0 hn0
          go_wp2_with (first
            | (go_at_call 173; ((with_reducible refine (DT.out _).mono ?_); rintro e wd ⟨rfl, hb1⟩; have PD := Lib.hid ((own_laterI HP.out hb1).alloc (.cells #[.int .i64 (dateY n), .int .i64 (dateM n), .int .i64 (dD n)] 131)); have BD := Lib.hid ((HB2.out _ hb1).alloc (HB2.out _ hb1).size (.cells #[.int .i64 (dateY n), .int .i64 (dateM n), .int .i64 (dD n)] 131)); clear hb1))
            | (go_at_call 225; ((with_reducible refine (R1.out _ BD.out).mono ?_); rintro e w2 ⟨rfl, hb2⟩; have P2 := Lib.hid (own_laterI PD.out hb2); have B2 := Lib.hid (BD.out.trans (hb2.mono BD.out.size)); clear hb2)))
          go_roundw
          case measure => simp [intOf]; omega
          case rel => exact ⟨n + 1, by have := GS.out; omega, by omega, by go_num, by rw [HG.out]; exact P2.out, B2.out⟩
      · have DT := Lib.hid (fun W => date_no n (.inr (by omega)) W)
        have HG := Lib.hid (goneF_no (r := r) (s := s) GS.out (fun h => h1 h.1))
        clear hn0
        go_wp2_with (go_at_call 173; ((with_reducible refine (DT.out _).mono ?_); rintro e wd ⟨rfl, hb1⟩; have PD := Lib.hid (fun ob => (own_laterI HP.out hb1).alloc ob); have BD := Lib.hid (fun ob => (HB2.out _ hb1).alloc (HB2.out _ hb1).size ob); clear hb1))
        go_roundw
        case measure => simp [intOf]; omega
        case rel => exact ⟨n + 1, by have := GS.out; omega, by omega, by go_num, by rw [HG.out]; exact PD.out _, BD.out _⟩
    · have HG := Lib.hid (show goneF r s a n = daysF r s from_ (from_ + many) by
        rw [HDF.out]
        by_cases e : n = from_ + many
        · rw [e]
        · unfold goneF; rw [ints_none (show n ≤ a by omega), ints_none (show from_ + many ≤ a by have := HA.out; omega)])
      have hn2 : n ≤ 2003000 := by omega
      go_wp2_with fail
      go_ret
      exact ⟨u1, rfl, by rw [← HG.out]; have h := HP.out; rw [List.length_append] at h; exact h, HB1.out⟩
end Go.Proofs.YtechgcjdigpglaaGreat
namespace Go.Proofs.YtechgcjdigpglaaGreat
open Go.RowKit Go.ChangeShapes Go.WideShapes Go.Deep
set_option linter.all false

theorem daysF_le (r : RuleD) (s a b : Int) : (daysF r s a b).length ≤ (b - a).toNat := by
  have := goneF_le r s (max a 0) b
  unfold daysF
  unfold goneF at this
  omega
theorem monthF_le (r : RuleD) (s y m : Int) : (monthF r s y m).length ≤ 31 := by
  unfold monthF
  split
  · have := daysF_le r s (numD y m 1) (numD y m 1 + lenM y m)
    have := lenM_bd y m
    omega
  · simp

set_option maxHeartbeats 8000000 in
set_option maxRecDepth 100000 in
theorem month_any (r : RuleD) (s mi : Int) (b : Nat) (w0 w : World) (hW : Wk r s mi b w0) (hb : Below w0.heap.size w0 w) (v : Value) (xs : List Int) (ho : w.ownsRow w0.heap.size 3 1 v xs.length (inC xs)) (hx : xs.length ≤ 1000)
    (y m : Int) (hs0 : 0 ≤ s) (hs1 : s < 109938) (hy0 : 1900 ≤ y) (hy1 : y ≤ 9000) (hm0 : 1 ≤ m) (hm1 : m ≤ 12) (hf : r.byMonth.length ≤ 10000 ∧ r.byMonthDay.length ≤ 10000 ∧ r.byDay.length ≤ 10000) :
    Calls Tryz.prog 220 #[.pointer (some ⟨b, 0, none⟩), v, .int .i64 y, .int .i64 m] w fun e w' => ∃ v', e = .returned v' ∧ w'.ownsRow w0.heap.size 3 1 v' (xs ++ monthF r s y m).length (inC (xs ++ monthF r s y m)) ∧ Below w0.heap.size w0 w' := by
  have hW0 := Lib.hid hW
  obtain ⟨om, nm, cm, od, nd, cd, oy, ny, cy, op, np, cp, hxx, h2, h3, h4, h5⟩ := hW.lies
  have HM := Lib.hid (nil_iff h2.len)
  have kA : ∀ j, w.cell? ⟨b, j, none⟩ = (#[.int .i64 r.freq, .int .i64 r.interval, .int .i64 r.count, .int .i64 r.until_, .slice om nm cm, .slice od nd cd, .slice oy ny cy, .slice op np cp, .int .i64 r.start, .int .i64 s, .int .i64 (dateY s), .int .i64 (dateM s), .int .i64 (dD s), .int .i64 mi] : Array Value)[j]? := fun j => (hb.cell (p := ⟨b, j, none⟩) hxx.lt).trans (hxx.cell j)
  have hbw : b < w.heap.size := Nat.lt_of_lt_of_le hxx.lt hb.size
  have CM := Lib.hid (fun W (hb : Below w0.heap.size w0 W) => contains_any _ r.byMonth m W (h2.later' hb) (by omega))
  have HO := Lib.hid ho; have HB := Lib.hid hb
  have hlb := lenM_bd y m
  have hl28 := @lenM_pos y m hm0 hm1
  by_cases hy : y ≤ 2200
  · have hv : validD y m 1 := ⟨hy0, hy, by omega, by omega⟩
    have hnb := numD_bd y m 1 hv ⟨hm0, hm1⟩
    have NU := Lib.hid (fun W => number_yes y m 1 hv W)
    have LN := Lib.hid (fun W => quiet_eq (length_any y m (by omega) (by omega) (by omega) (by omega) W))
    obtain ⟨q, hq⟩ : ∃ q, q = numD y m 1 := ⟨_, rfl⟩
    obtain ⟨L, hL⟩ : ∃ L, L = lenM y m := ⟨_, rfl⟩
    rw [← hq] at hnb NU; rw [← hL] at hlb LN
    have DY := Lib.hid (fun W v' (hb : Below w0.heap.size w0 W) (ho : W.ownsRow w0.heap.size 3 1 v' xs.length (inC xs)) => days_any r s mi b w0 W hW0.out hb v' xs ho hx q L hs0 hs1 (by omega) (by omega) (by omega) (by omega) hf)
    have HF := Lib.hid (show (r.byMonth = [] ∨ m ∈ r.byMonth) → monthF r s y m = daysF r s q (q + L) from fun h => by unfold monthF; rw [if_pos ⟨hv, h⟩, hq, hL])
    have HF2 := Lib.hid (show ¬ (r.byMonth = [] ∨ m ∈ r.byMonth) → monthF r s y m = [] from fun h => by unfold monthF; rw [if_neg (fun e => h e.2)])
    clear hW h2 h3 h4 h5 hxx hb ho hv hq hL hl28
    by_cases hn0 : nm = 0
    · have HE := Lib.hid (HF.out (.inl (HM.out.2 hn0)))
      have hnp : ¬ 0 < nm := by omega
      clear HF HF2 CM hn0
      go_enter Tryz.func220, Tryz.ntmps220
      go_wp2_with (first | (go_at_call 227; ((with_reducible refine (NU.out _).mono ?_); rintro e w1 ⟨rfl, hb1⟩; have kA1 : ∀ j, w1.cell? ⟨b, j, none⟩ = (#[.int .i64 r.freq, .int .i64 r.interval, .int .i64 r.count, .int .i64 r.until_, .slice om nm cm, .slice od nd cd, .slice oy ny cy, .slice op np cp, .int .i64 r.start, .int .i64 s, .int .i64 (dateY s), .int .i64 (dateM s), .int .i64 (dD s), .int .i64 mi] : Array Value)[j]? := (fun j => (hb1.cell (p := ⟨b, j, none⟩) hbw).trans (kA j)); have hbw1 : b < w1.heap.size := Nat.lt_of_lt_of_le hbw hb1.size; have P1 := Lib.hid (own_laterI HO.out hb1); have B1 := Lib.hid (HB.out.trans (hb1.mono HB.out.size)); clear hb1)) | (go_at_call 228; ((with_reducible refine (LN.out _).mono ?_); rintro e w2 ⟨rfl, rfl⟩)) | (go_at_call 219; ((with_reducible refine (DY.out _ _ B1.out P1.out).mono ?_); rintro e w3 ⟨v3, rfl, ho3, hb3⟩; have P3 := Lib.hid ho3; have B3 := Lib.hid hb3; clear ho3 hb3)))
      go_ret
      exact ⟨v3, rfl, by rw [HE.out]; exact P3.out, B3.out⟩
    · have hnp : 0 < nm := by omega
      by_cases hc : m ∈ r.byMonth
      · have HE := Lib.hid (HF.out (.inr hc))
        have C1 := Lib.hid (fun W hb => c_t (CM.out W hb) hc)
        clear HF HF2 CM hn0 hc
        go_enter Tryz.func220, Tryz.ntmps220
        go_wp2_with (first | (go_at_call 227; ((with_reducible refine (NU.out _).mono ?_); rintro e w1 ⟨rfl, hb1⟩; have kA1 : ∀ j, w1.cell? ⟨b, j, none⟩ = (#[.int .i64 r.freq, .int .i64 r.interval, .int .i64 r.count, .int .i64 r.until_, .slice om nm cm, .slice od nd cd, .slice oy ny cy, .slice op np cp, .int .i64 r.start, .int .i64 s, .int .i64 (dateY s), .int .i64 (dateM s), .int .i64 (dD s), .int .i64 mi] : Array Value)[j]? := (fun j => (hb1.cell (p := ⟨b, j, none⟩) hbw).trans (kA j)); have hbw1 : b < w1.heap.size := Nat.lt_of_lt_of_le hbw hb1.size; have P1 := Lib.hid (own_laterI HO.out hb1); have B1 := Lib.hid (HB.out.trans (hb1.mono HB.out.size)); clear hb1)) | (go_at_call 221; ((with_reducible refine (C1.out _ B1.out).mono ?_); rintro e w2 ⟨rfl, rfl⟩)) | (go_at_call 228; ((with_reducible refine (LN.out _).mono ?_); rintro e w2 ⟨rfl, rfl⟩)) | (go_at_call 219; ((with_reducible refine (DY.out _ _ B1.out P1.out).mono ?_); rintro e w3 ⟨v3, rfl, ho3, hb3⟩; have P3 := Lib.hid ho3; have B3 := Lib.hid hb3; clear ho3 hb3)))
        go_ret
        exact ⟨v3, rfl, by rw [HE.out]; exact P3.out, B3.out⟩
      · have HE := Lib.hid (HF2.out (fun h => h.elim (fun h => hn0 (HM.out.1 h)) hc))
        have C1 := Lib.hid (fun W hb => c_f (CM.out W hb) hc)
        clear HF HF2 CM hn0 hc
        go_enter Tryz.func220, Tryz.ntmps220
        go_wp2_with (first | (go_at_call 227; ((with_reducible refine (NU.out _).mono ?_); rintro e w1 ⟨rfl, hb1⟩; have kA1 : ∀ j, w1.cell? ⟨b, j, none⟩ = (#[.int .i64 r.freq, .int .i64 r.interval, .int .i64 r.count, .int .i64 r.until_, .slice om nm cm, .slice od nd cd, .slice oy ny cy, .slice op np cp, .int .i64 r.start, .int .i64 s, .int .i64 (dateY s), .int .i64 (dateM s), .int .i64 (dD s), .int .i64 mi] : Array Value)[j]? := (fun j => (hb1.cell (p := ⟨b, j, none⟩) hbw).trans (kA j)); have hbw1 : b < w1.heap.size := Nat.lt_of_lt_of_le hbw hb1.size; have P1 := Lib.hid (own_laterI HO.out hb1); have B1 := Lib.hid (HB.out.trans (hb1.mono HB.out.size)); clear hb1)) | (go_at_call 221; ((with_reducible refine (C1.out _ B1.out).mono ?_); rintro e w2 ⟨rfl, rfl⟩)) | (go_at_call 228; ((with_reducible refine (LN.out _).mono ?_); rintro e w2 ⟨rfl, rfl⟩)) | (go_at_call 219; ((with_reducible refine (DY.out _ _ B1.out P1.out).mono ?_); rintro e w3 ⟨v3, rfl, ho3, hb3⟩; have P3 := Lib.hid ho3; have B3 := Lib.hid hb3; clear ho3 hb3)))
        go_ret
        exact ⟨v, rfl, by rw [HE.out, List.append_nil]; exact P1.out, B1.out⟩
  · have hv : ¬ validD y m 1 := fun h => hy h.2.1
    have NU := Lib.hid (fun W => number_no y m 1 (by omega) (by omega) (by omega) (by omega) hv W)
    have HE := Lib.hid (show monthF r s y m = [] by unfold monthF; rw [if_neg (fun e => hv e.1)])
    clear hW h2 h3 h4 h5 hxx hb ho hv hy
    go_enter Tryz.func220, Tryz.ntmps220
    go_wp2_with (first | (go_at_call 227; ((with_reducible refine (NU.out _).mono ?_); rintro e w1 ⟨rfl, hb1⟩; have kA1 : ∀ j, w1.cell? ⟨b, j, none⟩ = (#[.int .i64 r.freq, .int .i64 r.interval, .int .i64 r.count, .int .i64 r.until_, .slice om nm cm, .slice od nd cd, .slice oy ny cy, .slice op np cp, .int .i64 r.start, .int .i64 s, .int .i64 (dateY s), .int .i64 (dateM s), .int .i64 (dD s), .int .i64 mi] : Array Value)[j]? := (fun j => (hb1.cell (p := ⟨b, j, none⟩) hbw).trans (kA j)); have hbw1 : b < w1.heap.size := Nat.lt_of_lt_of_le hbw hb1.size; have P1 := Lib.hid (own_laterI HO.out hb1); have B1 := Lib.hid (HB.out.trans (hb1.mono HB.out.size)); clear hb1)))
    go_ret
    exact ⟨v, rfl, by rw [HE.out, List.append_nil]; exact P1.out, B1.out⟩
end Go.Proofs.YtechgcjdigpglaaGreat
namespace Go.Proofs.YtechgcjdigpglaaGreat
open Go.RowKit Go.ChangeShapes Go.WideShapes Go.Deep
set_option linter.all false
attribute [local go_sem ↓] Go.wp_at_zero Go.wp_at_succ

/-- A period's number times the interval, not too great. -/
def perBd (r : RuleD) (x : Int) : Prop := 0 ≤ x ∧ x ≤ 112000 ∧ (r.freq = 3 → x ≤ 60000) ∧ (r.freq = 4 → x ≤ 5000)
/-- The days of a year's first months. -/
noncomputable def yearTo (r : RuleD) (s x : Int) (j : Nat) : List Int := (List.range j).flatMap fun m : Nat => monthF r s (dateY s + x) ((m : Int) + 1)
theorem yearTo_step (r : RuleD) (s x : Int) (j : Nat) : yearTo r s x (j + 1) = yearTo r s x j ++ monthF r s (dateY s + x) ((j : Int) + 1) := by
  unfold yearTo
  rw [List.range_succ, List.flatMap_append]
  simp
theorem yearTo_le (r : RuleD) (s x : Int) : ∀ j : Nat, (yearTo r s x j).length ≤ 31 * j
  | 0 => by simp [yearTo]
  | j + 1 => by
    have := yearTo_le r s x j
    have := monthF_le r s (dateY s + x) ((j : Int) + 1)
    rw [yearTo_step, List.length_append]; omega
theorem ret_vb {v : Value} {a b : Bool} (h : a = b) : Ending.returned (.tuple #[v, .bool a]) = Ending.returned (.tuple #[v, .bool b]) := by rw [h]
theorem dec_decide {p q : Prop} [Decidable p] (h : p ↔ q) : decide p = dec q := by
  by_cases hp : p
  · rw [decide_eq_true hp, dec_t (h.1 hp)]
  · rw [decide_eq_false hp, dec_f (fun hq => hp (h.2 hq))]

set_option maxHeartbeats 16000000 in
set_option maxRecDepth 100000 in
theorem period_any (r : RuleD) (s mi : Int) (b : Nat) (w : World) (hW : Wk r s mi b w) (k : Nat) (hk : k ≤ 200000)
    (hs0 : 0 ≤ s) (hs1 : s < 109938) (hfr : 1 ≤ r.freq ∧ r.freq ≤ 4) (hst : 0 ≤ r.start ∧ r.start ≤ 6) (hp : perBd r ((k : Int) * r.interval)) (hf : r.byMonth.length ≤ 10000 ∧ r.byMonthDay.length ≤ 10000 ∧ r.byDay.length ≤ 10000) :
    Calls Tryz.prog 208 #[.pointer (some ⟨b, 0, none⟩), .int .i64 (k : Nat)] w fun e w' => ∃ v, e = .returned (.tuple #[v, .bool (dec (moreP r s ((k : Int) * r.interval)))]) ∧ w'.ownsRow w.heap.size 3 1 v (periodF r s ((k : Int) * r.interval)).length (inC (periodF r s ((k : Int) * r.interval))) ∧ Below w.heap.size w w' := by
  have hW0 := Lib.hid hW
  obtain ⟨om, nm, cm, od, nd, cd, oy, ny, cy, op, np, cp, hxx, h2, h3, h4, h5⟩ := hW.lies
  have kA : ∀ j, w.cell? ⟨b, j, none⟩ = (#[.int .i64 r.freq, .int .i64 r.interval, .int .i64 r.count, .int .i64 r.until_, .slice om nm cm, .slice od nd cd, .slice oy ny cy, .slice op np cp, .int .i64 r.start, .int .i64 s, .int .i64 (dateY s), .int .i64 (dateM s), .int .i64 (dD s), .int .i64 mi] : Array Value)[j]? := hxx.cell
  have hbw : b < w.heap.size := hxx.lt
  obtain ⟨hk0, hk1, hx3, hx4⟩ := hp
  obtain ⟨hv, -, m1, m2⟩ := date_valid s hs0 hs1
  obtain ⟨v1, v2, v3, v4⟩ := hv
  obtain ⟨st0, st1⟩ := hst
  have WS := Lib.hid (fun W => weekday_any s (by omega) (by omega) W)
  have WT := Lib.hid (fun W => weekday_any (s % 7 - r.start) (by omega) (by omega) W)
  have DAY := Lib.hid (fun W v' (from_ many : Int) (h1 : -10 ≤ from_) (h2 : from_ ≤ 2000000) (h3 : 0 ≤ many) (h4 : many ≤ 1000) (hb : Below w.heap.size w W) (ho : W.ownsRow w.heap.size 3 1 v' ([] : List Int).length (inC [])) => days_any r s mi b w W hW0.out hb v' [] ho (by decide) from_ many hs0 hs1 h1 h2 h3 h4 hf)
  have MO := Lib.hid (fun W v' (xs : List Int) (hl : xs.length ≤ 1000) (y m : Int) (h1 : 1900 ≤ y) (h2 : y ≤ 9000) (h3 : 1 ≤ m) (h4 : m ≤ 12) (hb : Below w.heap.size w W) (ho : W.ownsRow w.heap.size 3 1 v' xs.length (inC xs)) => month_any r s mi b w W hW0.out hb v' xs ho hl y m hs0 hs1 h1 h2 h3 h4 hf)
  clear hW h2 h3 h4 h5 hxx hf
  by_cases f1 : r.freq = 1
  · have DY := Lib.hid (fun W (hb : Below w.heap.size w W) (ho : W.ownsRow w.heap.size 3 1 (.slice none 0 0) ([] : List Int).length (inC [])) => DAY.out W (.slice none 0 0) (s + ((k : Int) * r.interval)) 1 (by omega) (by omega) (by omega) (by omega) hb ho)
    have HP := Lib.hid (show periodF r s ((k : Int) * r.interval) = daysF r s (s + ((k : Int) * r.interval)) (s + ((k : Int) * r.interval) + 1) by unfold periodF; rw [if_pos f1])
    have HQ := Lib.hid (show (s + ((k : Int) * r.interval) < 109938) ↔ moreP r s ((k : Int) * r.interval) by unfold moreP; rw [if_pos f1])
    have b1 : (r.freq == 1) = true := by simpa using f1
    have hw1 : IntKind.i64.wrap (s + ((k : Int) * r.interval)) = s + ((k : Int) * r.interval) := by rw [IntKind.wrap_i64]; omega
    clear f1 hx3 hx4 DAY MO
    go_enter Tryz.func208, Tryz.ntmps208
    go_upto_region 4 with (fail)
    refine wp_region_held_drew (S := (fun W' => ∀ j, W'.cell? ⟨b, j, none⟩ = (#[.int .i64 r.freq, .int .i64 r.interval, .int .i64 r.count, .int .i64 r.until_, .slice om nm cm, .slice od nd cd, .slice oy ny cy, .slice op np cp, .int .i64 r.start, .int .i64 s, .int .i64 (dateY s), .int .i64 (dateM s), .int .i64 (dD s), .int .i64 mi] : Array Value)[j]?)) (by kernel_rfl) kA (fun hHeld => ?_)
    simp only [List.size_toArray, List.length_cons, List.length_nil, Nat.reduceAdd, Array.replicate_succ, Array.replicate_zero, List.push_toArray, List.nil_append, List.cons_append]
    refine wpAnyH_take (i := 0) (oi := ⟨some 26, _, _, _, _, _⟩) (v := ?_) rfl (by kernel_rfl) (by kernel_rfl) (by kernel_rfl) (fun _ _ _ h => h) (Or.inl ⟨by kernel_rfl, ?_⟩) (by assumption) ?_
    rotate_left
    · intro w hSw; (try dsimp only at hSw); go_simp; try with_reducible rfl
    try simp only [Act.put, List.setIfInBounds_toArray, List.set_cons_zero, List.set_cons_succ]
    refine wpAnyH_take (i := 1) (oi := ⟨some 27, _, _, _, _, _⟩) (v := ?_) rfl (by kernel_rfl) (by kernel_rfl) (by kernel_rfl) (fun _ _ _ h => h) (Or.inl ⟨by kernel_rfl, ?_⟩) (by assumption) ?_
    rotate_left
    · intro w hSw; (try dsimp only at hSw); go_simp; try with_reducible rfl
    try simp only [Act.put, List.setIfInBounds_toArray, List.set_cons_zero, List.set_cons_succ]
    refine wpAnyH_take (i := 2) (oi := ⟨some 28, _, _, _, _, _⟩) (v := ?_) rfl (by kernel_rfl) (by kernel_rfl) (by kernel_rfl) (fun _ _ _ h => h) (Or.inl ⟨by kernel_rfl, ?_⟩) (by assumption) ?_
    rotate_left
    · intro w hSw; (try dsimp only at hSw); go_simp; try with_reducible rfl
    try simp only [Act.put, List.setIfInBounds_toArray, List.set_cons_zero, List.set_cons_succ]
    refine wpAnyH_take (i := 3) (oi := ⟨some 29, _, _, _, _, _⟩) (v := ?_) rfl (by kernel_rfl) (by kernel_rfl) (by kernel_rfl) (fun _ _ _ h => h) (Or.inl ⟨by kernel_rfl, ?_⟩) (by assumption) ?_
    rotate_left
    · intro w hSw; (try dsimp only at hSw); go_simp; try with_reducible rfl
    try simp only [Act.put, List.setIfInBounds_toArray, List.set_cons_zero, List.set_cons_succ]
    refine wpAnyH_take (i := 4) (oi := ⟨some 30, _, _, _, _, _⟩) (v := ?_) rfl (by kernel_rfl) (by kernel_rfl) (by kernel_rfl) (fun _ _ _ h => h) (Or.inl ⟨by kernel_rfl, ?_⟩) (by assumption) ?_
    rotate_left
    · intro w hSw; (try dsimp only at hSw); go_simp; try with_reducible rfl
    try simp only [Act.put, List.setIfInBounds_toArray, List.set_cons_zero, List.set_cons_succ]
    refine wpAnyH_take (i := 5) (oi := ⟨some 31, _, _, _, _, _⟩) (v := ?_) rfl (by kernel_rfl) (by kernel_rfl) (by kernel_rfl) (fun _ _ _ h => h) (Or.inl ⟨by kernel_rfl, ?_⟩) (by assumption) ?_
    rotate_left
    · intro w hSw; (try dsimp only at hSw); go_simp; try with_reducible rfl
    try simp only [Act.put, List.setIfInBounds_toArray, List.set_cons_zero, List.set_cons_succ]
    refine wpAnyH_take (i := 6) (oi := ⟨some 32, _, _, _, _, _⟩) (v := ?_) rfl (by kernel_rfl) (by kernel_rfl) (by kernel_rfl) (fun _ _ _ h => h) (Or.inl ⟨by kernel_rfl, ?_⟩) (by assumption) ?_
    rotate_left
    · intro w hSw; (try dsimp only at hSw); go_simp; try with_reducible rfl
    try simp only [Act.put, List.setIfInBounds_toArray, List.set_cons_zero, List.set_cons_succ]
    refine wpAnyH_take (i := 8) (oi := ⟨some 34, _, _, _, _, _⟩) (v := ?_) rfl (by kernel_rfl) (by kernel_rfl) (by kernel_rfl) (fun _ _ _ h => h) (Or.inl ⟨by kernel_rfl, ?_⟩) (by assumption) ?_
    rotate_left
    · intro w hSw; (try dsimp only at hSw); go_simp; try with_reducible rfl
    try simp only [Act.put, List.setIfInBounds_toArray, List.set_cons_zero, List.set_cons_succ]
    refine wpAnyH_take (i := 9) (oi := ⟨some 35, _, _, _, _, _⟩) (v := ?_) rfl (by kernel_rfl) (by kernel_rfl) (by kernel_rfl) (fun _ _ _ h => h) (Or.inl ⟨by kernel_rfl, ?_⟩) (by assumption) ?_
    rotate_left
    · intro w hSw; (try dsimp only at hSw); go_simp; try with_reducible rfl
    try simp only [Act.put, List.setIfInBounds_toArray, List.set_cons_zero, List.set_cons_succ]
    refine wpAnyH_take (i := 10) (oi := ⟨some 36, _, _, _, _, _⟩) (v := ?_) rfl (by kernel_rfl) (by kernel_rfl) (by kernel_rfl) (fun _ _ _ h => h) (Or.inl ⟨by kernel_rfl, ?_⟩) (by assumption) ?_
    rotate_left
    · intro w hSw; (try dsimp only at hSw); go_simp; try with_reducible rfl
    try simp only [Act.put, List.setIfInBounds_toArray, List.set_cons_zero, List.set_cons_succ]
    refine wpAnyH_take (i := 11) (oi := ⟨some 37, _, _, _, _, _⟩) (v := ?_) rfl (by kernel_rfl) (by kernel_rfl) (by kernel_rfl) (fun _ _ _ h => h) (Or.inl ⟨by kernel_rfl, ?_⟩) (by assumption) ?_
    rotate_left
    · intro w hSw; (try dsimp only at hSw); go_simp; try with_reducible rfl
    try simp only [Act.put, List.setIfInBounds_toArray, List.set_cons_zero, List.set_cons_succ]
    refine wpAnyH_take (i := 12) (oi := ⟨some 38, _, _, _, _, _⟩) (v := ?_) rfl (by kernel_rfl) (by kernel_rfl) (by kernel_rfl) (fun _ _ _ h => h) (Or.inl ⟨by kernel_rfl, ?_⟩) (by assumption) ?_
    rotate_left
    · intro w hSw; (try dsimp only at hSw); go_simp; try with_reducible rfl
    try simp only [Act.put, List.setIfInBounds_toArray, List.set_cons_zero, List.set_cons_succ]
    refine wpAnyH_take (i := 13) (oi := ⟨some 39, _, _, _, _, _⟩) (v := ?_) rfl (by kernel_rfl) (by kernel_rfl) (by kernel_rfl) (fun _ _ _ h => h) (Or.inl ⟨by kernel_rfl, ?_⟩) (by assumption) ?_
    rotate_left
    · intro w hSw; (try dsimp only at hSw); go_simp; try with_reducible rfl
    try simp only [Act.put, List.setIfInBounds_toArray, List.set_cons_zero, List.set_cons_succ]
    refine wpAnyH_take (i := 14) (oi := ⟨some 40, _, _, _, _, _⟩) (v := ?_) rfl (by kernel_rfl) (by kernel_rfl) (by kernel_rfl) (fun _ _ _ h => h) (Or.inl ⟨by kernel_rfl, ?_⟩) (by assumption) ?_
    rotate_left
    · intro w hSw; (try dsimp only at hSw); go_simp; try with_reducible rfl
    try simp only [Act.put, List.setIfInBounds_toArray, List.set_cons_zero, List.set_cons_succ]
    refine wpAnyH_ready (rs := [7]) (by kernel_rfl) (by simp) ?_
    refine AllReadyH.cons rfl (fun K hK => ?_) AllReadyH.nil
    have HK := Lib.hid hK
    go_simp
    go_at_call 219; ((with_reducible refine (DY.out _ (Below.refl _ _).drew (World.ownsRow_nil _ _ _ _)).mono ?_); rintro e w1 ⟨v1, rfl, ho1, hb1⟩; have kA1 : ∀ j, w1.cell? ⟨b, j, none⟩ = (#[.int .i64 r.freq, .int .i64 r.interval, .int .i64 r.count, .int .i64 r.until_, .slice om nm cm, .slice od nd cd, .slice oy ny cy, .slice op np cp, .int .i64 r.start, .int .i64 s, .int .i64 (dateY s), .int .i64 (dateM s), .int .i64 (dD s), .int .i64 mi] : Array Value)[j]? := (fun j => (hb1.cell (p := ⟨b, j, none⟩) hbw).trans (kA j)); have P1 := Lib.hid ho1; have B1 := Lib.hid hb1; clear ho1 hb1)
    go_simp
    refine HK.out _ _ kA1 (fun hHeld => ?_)
    clear HK hK K
    try simp only [Act.put, List.setIfInBounds_toArray, List.set_cons_zero, List.set_cons_succ]
    refine wpAnyH_take (i := 15) (oi := ⟨some 4, _, _, _, _, _⟩) (v := ?_) rfl (by kernel_rfl) (by kernel_rfl) (by kernel_rfl) (fun _ _ _ h => h) (Or.inl ⟨by kernel_rfl, ?_⟩) (by assumption) ?_
    rotate_left
    · intro w hSw; (try dsimp only at hSw); go_simp; try with_reducible rfl
    try simp only [Act.put, List.setIfInBounds_toArray, List.set_cons_zero, List.set_cons_succ]
    refine wpAnyH_take (i := 16) (oi := ⟨some 5, _, _, _, _, _⟩) (v := ?_) rfl (by kernel_rfl) (by kernel_rfl) (by kernel_rfl) (fun _ _ _ h => h) (Or.inl ⟨by kernel_rfl, ?_⟩) (by assumption) ?_
    rotate_left
    · intro w hSw; (try dsimp only at hSw); go_simp; try with_reducible rfl
    try simp only [Act.put, List.setIfInBounds_toArray, List.set_cons_zero, List.set_cons_succ]
    refine wpAnyH_done (by kernel_rfl) ?_ _
    go_wp2_with fail
    go_ret2
    exact ⟨v1, ret_vb (dec_decide HQ.out), by rw [HP.out]; exact P1.out, B1.out⟩
  by_cases f2 : r.freq = 2
  · have hp0 : 0 ≤ s % 7 := by omega
    have hp1 : s % 7 < 7 := by omega
    have hp2 : 0 ≤ (s % 7 - r.start) % 7 := by omega
    have hp3 : (s % 7 - r.start) % 7 < 7 := by omega
    have hpe : (s % 7 - r.start) % 7 = (s - r.start) % 7 := by omega
    have DY := Lib.hid (fun W (hb : Below w.heap.size w W) (ho : W.ownsRow w.heap.size 3 1 (.slice none 0 0) ([] : List Int).length (inC [])) => DAY.out W (.slice none 0 0) (s - (s - r.start) % 7 + 7 * ((k : Int) * r.interval)) 7 (by omega) (by omega) (by omega) (by omega) hb ho)
    have HP := Lib.hid (show periodF r s ((k : Int) * r.interval) = daysF r s (s - (s - r.start) % 7 + 7 * ((k : Int) * r.interval)) (s - (s - r.start) % 7 + 7 * ((k : Int) * r.interval) + 7) by unfold periodF; rw [if_neg f1, if_pos f2]; unfold weekLo; rw [hpe])
    have HQ := Lib.hid (show (s - (s - r.start) % 7 + 7 * ((k : Int) * r.interval) < 109938) ↔ moreP r s ((k : Int) * r.interval) by unfold moreP; rw [if_neg f1, if_pos f2]; unfold weekLo; rw [hpe])
    clear hpe
    have b1 : (r.freq == 1) = false := by simpa using f1
    have b2 : (r.freq == 2) = true := by simpa using f2
    obtain ⟨hw1, hw2, hw3, hw4⟩ : IntKind.i64.wrap (s % 7 - r.start) = s % 7 - r.start ∧ IntKind.i64.wrap (s - (s - r.start) % 7) = s - (s - r.start) % 7 ∧ IntKind.i64.wrap (7 * ((k : Int) * r.interval)) = 7 * ((k : Int) * r.interval) ∧ IntKind.i64.wrap (s - (s - r.start) % 7 + 7 * ((k : Int) * r.interval)) = s - (s - r.start) % 7 + 7 * ((k : Int) * r.interval) := by
      refine ⟨?_, ?_, ?_, ?_⟩ <;> (rw [IntKind.wrap_i64]; omega)
    clear f1 f2 hx3 hx4 DAY MO
    go_enter Tryz.func208, Tryz.ntmps208
    go_wp2_with fail
    refine wp_region_quiet_lit (by kernel_rfl) (by kernel_rfl) ?_
    repeat (any_goals (first | go_big_quiet_step (((first | (go_at_call 204; exact Calls.quiet_of_same (WS.out _)) | (go_at_call 204; exact Calls.quiet_of_same (WT.out _))))) | quiet_step (((first | (go_at_call 204; exact Calls.quiet_of_same (WS.out _)) | (go_at_call 204; exact Calls.quiet_of_same (WT.out _))))) | (refine wpQuiet_step (fun K hK => ?_); go_simp; split <;> (refine hK _ ?_; clear hK K))))
    all_goals (refine wpQuiet_nil ?_; intro _ hw'; obtain ⟨nq, hw''⟩ := hw'; subst hw'')
    go_wp2_with (go_at_call 219; ((with_reducible refine (DY.out _ (below_drewN (Below.refl _ _) _) (World.ownsRow_nil _ _ _ _)).mono ?_); rintro e w1 ⟨v1, rfl, ho1, hb1⟩; have P1 := Lib.hid ho1; have B1 := Lib.hid hb1; clear ho1 hb1))
    go_ret2
    exact ⟨v1, ret_vb (dec_decide HQ.out), by rw [HP.out]; exact P1.out, B1.out⟩
  by_cases f3 : r.freq = 3
  · have hx3 := hx3 f3
    have MM := Lib.hid (fun W (hb : Below w.heap.size w W) (ho : W.ownsRow w.heap.size 3 1 (.slice none 0 0) ([] : List Int).length (inC [])) => MO.out W (.slice none 0 0) [] (by decide) ((12 * dateY s + dateM s - 1 + ((k : Int) * r.interval)) / 12) ((12 * dateY s + dateM s - 1 + ((k : Int) * r.interval)) % 12 + 1) (by omega) (by omega) (by omega) (by omega) hb ho)
    have HP := Lib.hid (show periodF r s ((k : Int) * r.interval) = monthF r s ((12 * dateY s + dateM s - 1 + ((k : Int) * r.interval)) / 12) ((12 * dateY s + dateM s - 1 + ((k : Int) * r.interval)) % 12 + 1) by unfold periodF; rw [if_neg f1, if_neg f2, if_pos f3]; rfl)
    have HQ := Lib.hid (show ((12 * dateY s + dateM s - 1 + ((k : Int) * r.interval)) / 12 ≤ 2200) ↔ moreP r s ((k : Int) * r.interval) by unfold moreP; rw [if_neg f1, if_neg f2, if_pos f3]; exact Iff.rfl)
    have b1 : (r.freq == 1) = false := by simpa using f1
    have b2 : (r.freq == 2) = false := by simpa using f2
    have b3 : (r.freq == 3) = true := by simpa using f3
    obtain ⟨hw1, hw2, hw3, hw4⟩ : IntKind.i64.wrap (12 * dateY s) = 12 * dateY s ∧ IntKind.i64.wrap (12 * dateY s + dateM s) = 12 * dateY s + dateM s ∧ IntKind.i64.wrap (12 * dateY s + dateM s - 1) = 12 * dateY s + dateM s - 1 ∧ IntKind.i64.wrap (12 * dateY s + dateM s - 1 + ((k : Int) * r.interval)) = 12 * dateY s + dateM s - 1 + ((k : Int) * r.interval) := by
      refine ⟨?_, ?_, ?_, ?_⟩ <;> (rw [IntKind.wrap_i64]; omega)
    clear f1 f2 f3 hx4 DAY MO
    go_enter Tryz.func208, Tryz.ntmps208
    go_wp2_with fail
    refine wp_region_quiet_lit (by kernel_rfl) (by kernel_rfl) ?_
    repeat (any_goals (first | go_big_quiet_step ((fail)) | quiet_step ((fail)) | (refine wpQuiet_step (fun K hK => ?_); go_simp; split <;> (refine hK _ ?_; clear hK K))))
    all_goals (refine wpQuiet_nil ?_; intro _ hw'; obtain ⟨nq, hw''⟩ := hw'; subst hw'')
    go_wp2_with (go_at_call 220; ((go_loud (with_reducible refine (MM.out _ (below_drewN (Below.refl _ _) _) (World.ownsRow_nil _ _ _ _)).mono ?_)); rintro e w1 ⟨v1, rfl, ho1, hb1⟩; have P1 := Lib.hid ho1; have B1 := Lib.hid hb1; clear ho1 hb1))
    go_ret2
    exact ⟨v1, ret_vb (dec_decide HQ.out), by rw [HP.out]; exact P1.out, B1.out⟩
  · have f4 : r.freq = 4 := by omega
    have hx4 := hx4 f4
    have MM := Lib.hid (fun W v' (j : Nat) (hj : j < 12) (hb : Below w.heap.size w W) (ho : W.ownsRow w.heap.size 3 1 v' (yearTo r s ((k : Int) * r.interval) j).length (inC (yearTo r s ((k : Int) * r.interval) j))) => MO.out W v' (yearTo r s ((k : Int) * r.interval) j) (Nat.le_trans (yearTo_le r s ((k : Int) * r.interval) j) (by omega)) (dateY s + ((k : Int) * r.interval)) ((j : Int) + 1) (by omega) (by omega) (by omega) (by omega) hb ho)
    have HP := Lib.hid (show periodF r s ((k : Int) * r.interval) = yearTo r s ((k : Int) * r.interval) 12 by unfold periodF; rw [if_neg f1, if_neg f2, if_neg f3]; rfl)
    have HQ := Lib.hid (show (dateY s + ((k : Int) * r.interval) ≤ 2200) ↔ moreP r s ((k : Int) * r.interval) by unfold moreP; rw [if_neg f1, if_neg f2, if_neg f3])
    have b1 : (r.freq == 1) = false := by simpa using f1
    have b2 : (r.freq == 2) = false := by simpa using f2
    have b3 : (r.freq == 3) = false := by simpa using f3
    clear f1 f2 f3 f4 hx3 DAY MO
    go_enter Tryz.func208, Tryz.ntmps208
    go_wp2_with fail
    go_loopw [10, 102] (fun v i wr => ∃ j : Nat, j ≤ 12 ∧ i = .int .i64 (j : Nat) ∧ Hid (wr.ownsRow w.heap.size 3 1 v (yearTo r s ((k : Int) * r.interval) j).length (inC (yearTo r s ((k : Int) * r.interval) j))) ∧ Hid (Below w.heap.size w wr)) (fun _ i _ => 12 - (intOf i).toNat)
    case atStart => exact ⟨0, by omega, rfl, Lib.hid (World.ownsRow_nil _ _ _ _), Lib.hid (Below.refl _ _)⟩
    case round =>
      obtain ⟨j, hj, rfl, HO, HB⟩ := hrel
      by_cases hlt : j < 12
      · have hlt' : (j : Int) < 12 := by omega
        have M1 := Lib.hid (fun W v' hb ho => MM.out W v' j hlt hb ho)
        go_wp2_with (go_at_call 220; ((with_reducible refine (M1.out _ _ HB.out HO.out).mono ?_); rintro e w1 ⟨v1, rfl, ho1, hb1⟩; have P1 := Lib.hid ho1; have B1 := Lib.hid hb1; clear ho1 hb1))
        go_roundw
        case measure => simp [intOf]; omega
        case rel => exact ⟨j + 1, by omega, by go_num, Lib.hid (by rw [yearTo_step]; exact P1.out), B1⟩
      · obtain rfl : j = 12 := by omega
        go_wp2_with fail
        go_ret2
        exact ⟨u10, ret_vb (dec_decide HQ.out), by rw [HP.out]; exact HO.out, HB.out⟩
end Go.Proofs.YtechgcjdigpglaaGreat
