/- The walk of the law RuleTexts: it answers true. Conditions: the tables are laid, the errors of strconv lie in their boxes. -/
import Derived.Test.YtcleicjgeflbnaaGreatDoorQ10
namespace Go.Proofs.YtcleicjgeflbnaaGreatDoor
open Go.RowKit Go.ChangeShapes Go.WideShapes Go.Deep
set_option linter.all false
attribute [local go_sem ↓] Go.wp_at_zero Go.wp_at_succ

theorem dec3 (u : Nat) (h : u < 1000) : (Lib.decDigits u).length ≤ 3 := by
  rw [decDigits_rec]
  split
  · simp
  · rw [decDigits_rec]
    split
    · simp
    · rw [decDigits_rec, if_pos (by omega)]
      simp
theorem itoa4 (n : Int) (h0 : -999 ≤ n) (h1 : n ≤ 999) : (Lib.itoa n).length ≤ 4 := by
  unfold Lib.itoa
  split
  · have := dec3 n.natAbs (by omega)
    simp only [List.length_cons]; omega
  · have := dec3 n.toNat (by omega)
    omega
theorem row_small {α : Type} (k : List UInt8) (f : α → List UInt8) (l : List α) (m : Nat) (hk : k.length ≤ 20) (h : ∀ x ∈ l, (f x).length ≤ m) : (rowT k f l).length ≤ 21 + (m + 1) * l.length := by
  unfold rowT
  split
  · simp
  · have := joinL_le 44 m (l.map f) (fun y hy => by obtain ⟨x, hx, rfl⟩ := List.mem_map.1 hy; exact h x hx)
    rw [List.length_map] at this
    simp only [List.length_cons, List.length_append]
    omega
theorem opt_small (c : Prop) [Decidable c] (x : List UInt8) (m : Nat) (h : c → x.length ≤ m) : (optT c x).length ≤ m + 1 := by
  unfold optT
  split
  · rename_i hc; have := h hc; simp only [List.length_cons]; omega
  · simp
theorem text_small {r : RuleD} (hm : mayR r) (hg : ¬ greatR r) : (textR shortT r).length ≤ 9999 := by
  obtain ⟨p1, p2, p3, p4, p5, p6, p7, p8, p9, p10, p11, p12, p13⟩ := hm
  unfold endsMay at p5
  unfold greatR at hg
  have hrb : ∀ {k : Nat} {b : Bool} {l : List Int}, rowMay k b l → k ≤ 999 → ∀ x ∈ l, (Lib.itoa x).length ≤ 4 := fun h hk x hx => by
    have := h.1 x hx
    unfold rowOne at this
    exact itoa4 x (by omega) (by omega)
  have a1 := opt_small (r.interval ≠ 1) (kINTERVAL ++ Lib.itoa r.interval) 40 (fun _ => by have := itoa4 r.interval (by omega) (by omega); rw [List.length_append]; simp only [kINTERVAL, List.length_cons, List.length_nil]; omega)
  have a2 := opt_small (0 < r.count) (kCOUNT ++ Lib.itoa r.count) 40 (fun _ => by have := Lib.itoa_length_le r.count (by omega) (by omega); rw [List.length_append]; simp only [kCOUNT, List.length_cons, List.length_nil]; omega)
  have a3 := opt_small (0 ≤ r.until_) (kUNTIL ++ shortT r.until_) 40 (fun _ => by have := shortT_length r.until_; rw [List.length_append]; simp only [kUNTIL, List.length_cons, List.length_nil]; omega)
  have a4 := row_small kBYMONTH Lib.itoa r.byMonth 4 (by decide) (hrb p6 (by decide))
  have a5 := row_small kBYMONTHDAY Lib.itoa r.byMonthDay 4 (by decide) (hrb p7 (by decide))
  have a6 := row_small kBYDAY dayNT r.byDay 6 (by decide) (fun x hx => by
    have hb := p9.1 x hx
    unfold dayOne at hb
    have h1 := itoa4 x.n (by omega) (by omega)
    have h2 := (dayT_two ⟨hb.1, hb.2.1⟩).1
    rw [dayNT_eq, List.length_append, h2]
    split
    · simp
    · omega)
  have a7 := row_small kBYSETPOS Lib.itoa r.bySetPos 4 (by decide) (hrb p10 (by decide))
  have a8 := opt_small (0 < r.start) (kWKST ++ dayT r.start) 40 (fun _ => by have := (dayT_two ⟨p12, p13⟩).1; rw [List.length_append, this]; simp only [kWKST, List.length_cons, List.length_nil]; omega)
  have a0 : (kFREQ ++ freqT r.freq).length ≤ 20 := by
    have hf4 : r.freq = 1 ∨ r.freq = 2 ∨ r.freq = 3 ∨ r.freq = 4 := by omega
    rcases hf4 with e | e | e | e <;> rw [e] <;> decide
  rw [text_flat]
  simp only [List.length_append] at a0 ⊢
  omega

set_option maxRecDepth 100000 in
set_option maxHeartbeats 20000000 in
theorem texts_walk (cs : List Value) (r : RuleD) (w : World) (h : rRule w cs r) (hL : Laid w) (hE : Errs w) : Calls Tryz.prog 5 #[.agg cs.toArray] w fun e w' => e = .returned (.bool true) ∧ Below w.heap.size w w' := by
  have SR := Lib.hid h
  have HL := Lib.hid hL; have HE := Lib.hid hE
  obtain ⟨mr, dr, yr, pr, rfl, -, -, -, -, -, rmr, rdr, ryr, rpr⟩ := h
  obtain ⟨omr, nmr, cmr, rfl, -, -, -, Rmr⟩ := rmr.open
  obtain ⟨odr, ndr, cdr, rfl, -, -, -, Rdr⟩ := rdr.open
  obtain ⟨oyr, nyr, cyr, rfl, -, -, -, Ryr⟩ := ryr.open
  obtain ⟨opr, npr, cpr, rfl, -, -, -, Rpr⟩ := rpr.open
  clear rmr rdr ryr rpr Rmr Rdr Ryr Rpr
  have FX := Lib.hid (fun (W : World) (hb : Below w.heap.size w W) => fixed_any W (HL.out.later hb) (HE.out.later hb))
  have X0 := Lib.hid (BxAt.new w #[.int .i64 r.freq, .int .i64 r.interval, .int .i64 r.count, .int .i64 r.until_, .slice omr nmr cmr, .slice odr ndr cdr, .slice oyr nyr cyr, .slice opr npr cpr, .int .i64 r.start] 26)
  have Y0 := Lib.hid (show Below w.heap.size w (w.alloc (.cells #[.int .i64 r.freq, .int .i64 r.interval, .int .i64 r.count, .int .i64 r.until_, .slice omr nmr cmr, .slice odr ndr cdr, .slice oyr nyr cyr, .slice opr npr cpr, .int .i64 r.start] 26)) from belowA _ (Below.refl _ _))
  by_cases hg : greatR r
  · have G := Lib.hid (fun (W : World) (hb : Below w.heap.size w W) => c_t (great_any _ r W (SR.out.later hb)) hg)
    clear hL hE hg
    go_enter Tryz.func5, Tryz.ntmps5
    go_wp2_with (first
      | (go_at_call 12; ((with_reducible refine (G.out _ Y0.out).mono ?_); rintro e w1 ⟨rfl, hb1⟩; have X1 := Lib.hid (X0.out.below hb1); have kA1 := X1.out.cell; have Y1 := Lib.hid (Y0.out.trans (hb1.mono Y0.out.size)); clear hb1))
      | (go_at_call 7; ((with_reducible refine (FX.out _ Y1.out).mono ?_); rintro e w2 ⟨rfl, hb2⟩; have X2 := Lib.hid (X1.out.below hb2); have kA2 := X2.out.cell; have Y2 := Lib.hid (Y1.out.trans (hb2.mono Y1.out.size)); clear hb2)))
    go_ret
    exact ⟨rfl, Y2.out⟩
  · have G := Lib.hid (fun (W : World) (hb : Below w.heap.size w W) => c_f (great_any _ r W (SR.out.later hb)) hg)
    have hfew := few_of hg
    obtain ⟨o, ho⟩ : ∃ g, g = dec (mayR r) := ⟨_, rfl⟩
    obtain ⟨X, hX⟩ : ∃ X, X = if o then toB (textR shortT r) else ⟨#[]⟩ := ⟨_, rfl⟩
    have T := Lib.hid (fun (W : World) (hb : Below w.heap.size w W) => text_any _ r W (SR.out.later hb) hfew (HL.out.later hb) X o ho hX)
    have M14 := Lib.hid (fun (W : World) (hb : Below w.heap.size w W) => may_any _ r W (SR.out.later hb) hfew)
    have M10 := Lib.hid (fun (W : World) (hb : Below w.heap.size w W) => refMay_any _ r W (SR.out.later hb) hfew)
    rw [← ho] at M14 M10
    have hqq : (o != o) = false := by simp
    have hcase : (o = false ∧ X = ⟨#[]⟩) ∨ (o = true ∧ mayR r ∧ X = toB (textR shortT r)) := by
      cases o
      · exact .inl ⟨rfl, by rw [hX]; rfl⟩
      · exact .inr ⟨rfl, (dec_iff (p := mayR r)).1 ho.symm, by rw [hX]; rfl⟩
    have HFEW := Lib.hid hfew
    have HG := Lib.hid hg
    clear hL hE hg hfew ho hX
    have HC := Lib.hid hcase
    clear hcase
    go_enter Tryz.func5, Tryz.ntmps5
    go_upto_region 4 with (first
      | (go_at_call 12; ((with_reducible refine (G.out _ Y0.out).mono ?_); rintro e w1 ⟨rfl, hb1⟩; have X1 := Lib.hid (X0.out.below hb1); have kA1 := X1.out.cell; have Y1 := Lib.hid (Y0.out.trans (hb1.mono Y0.out.size)); clear hb1))
      | (go_at_call 13; ((with_reducible refine (T.out _ Y1.out).mono ?_); rintro e w2 ⟨rfl, hb2⟩; have X2 := Lib.hid (X1.out.below hb2); have kA2 := X2.out.cell; have Y2 := Lib.hid (Y1.out.trans (hb2.mono Y1.out.size)); clear hb2)))
    have kAd : ∀ j, w2.drew.cell? ⟨w.heap.size, j, none⟩ = (#[.int .i64 r.freq, .int .i64 r.interval, .int .i64 r.count, .int .i64 r.until_, .slice omr nmr cmr, .slice odr ndr cdr, .slice oyr nyr cyr, .slice opr npr cpr, .int .i64 r.start] : Array Value)[j]? := kA2
    go_region_held3 (fun W' => ∀ j, W'.cell? ⟨w.heap.size, j, none⟩ = (#[.int .i64 r.freq, .int .i64 r.interval, .int .i64 r.count, .int .i64 r.until_, .slice omr nmr cmr, .slice odr ndr cdr, .slice oyr nyr cyr, .slice opr npr cpr, .int .i64 r.start] : Array Value)[j]?) (assumption) (first
      | (go_at_call 14; ((with_reducible refine (M14.out _ (by first | exact Y2.out | exact Y2.out.drew)).mono ?_); rintro e w3 ⟨rfl, hb3⟩; have hq3 := show Below w2.heap.size w2 w3 from ⟨hb3.os, hb3.tape, hb3.output, hb3.size, hb3.block⟩; have X3 := Lib.hid (X2.out.below hq3); have kA3 := X3.out.cell; have Y3 := Lib.hid (Y2.out.trans (hq3.mono Y2.out.size)); clear hb3 hq3))
      | (go_at_call 10; ((with_reducible refine (M10.out _ (by first | exact Y3.out | exact Y3.out.drew)).mono ?_); rintro e w4 ⟨rfl, hb4⟩; have hq4 := show Below w3.heap.size w3 w4 from ⟨hb4.os, hb4.tape, hb4.output, hb4.size, hb4.block⟩; have X4 := Lib.hid (X3.out.below hq4); have kA4 := X4.out.cell; have Y4 := Lib.hid (Y3.out.trans (hq4.mono Y3.out.size)); clear hb4 hq4))
      | (go_at_call 10; ((with_reducible refine (M10.out _ (by first | exact Y4.out | exact Y4.out.drew)).mono ?_); rintro e w5 ⟨rfl, hb5⟩; have hq5 := show Below w4.heap.size w4 w5 from ⟨hb5.os, hb5.tape, hb5.output, hb5.size, hb5.block⟩; have X5 := Lib.hid (X4.out.below hq5); have kA5 := X5.out.cell; have Y5 := Lib.hid (Y4.out.trans (hq5.mono Y4.out.size)); clear hb5 hq5)))
    all_goals
      go_upto_if 27 with (fail)
      obtain ⟨rfl, rfl⟩ | ⟨rfl, hm, hX⟩ := HC.out
      · go_wp2_with (first
          | (go_at_call 7; ((with_reducible refine (FX.out _ Y5.out).mono ?_); rintro e w6 ⟨rfl, hb6⟩; have X6 := Lib.hid (X5.out.below hb6); have kA6 := X6.out.cell; have Y6 := Lib.hid (Y5.out.trans (hb6.mono Y5.out.size)); clear hb6)))
        go_ret
        exact ⟨rfl, Y6.out⟩
      · have HM := Lib.hid hm
        have HX := Lib.hid hX
        have hXs : X.size ≤ 9999 := by rw [hX, toB_size]; exact text_small hm HG.out
        have RD := Lib.hid (fun (W : World) (hb : Below w.heap.size w W) => read_any X W (HL.out.later hb) (HE.out.later hb) hXs)
        have T11 := Lib.hid (fun (W : World) (hb : Below w.heap.size w W) => refText_any _ r W (SR.out.later hb) HFEW.out HM.out)
        rw [← hX] at T11
        have hss : (X.toList == X.toList) = true := by simp
        have HNO := Lib.hid (show ∀ r2 : RuleD, readL (splitB 59 X) ruleB = some r2 → r2 = r from fun r2 e2 => by
          rw [hX, read_text hm] at e2
          exact (Option.some.inj e2).symm)
        have HYES := Lib.hid (show ¬ ∀ r2, readL (splitB 59 X) ruleB = some r2 → mayR r2 → toB (textR shortT r2) ≠ X from fun e2 => e2 r (by rw [hX]; exact read_text hm) hm hX.symm)
        clear hm hX hXs
        go_wp2_with fail
        (with_reducible refine (RD.out _ Y5.out).mono ?_)
        rintro e w6 (⟨b, cs2, hr2, -, -, rfl, hrel2, -, hb6⟩ | ⟨hno, -⟩)
        · obtain rfl := HNO.out _ hr2
          have SB := Lib.hid hrel2
          have X6 := Lib.hid (X5.out.below hb6)
          have Y6 := Lib.hid (Y5.out.trans (hb6.mono Y5.out.size))
          obtain ⟨mb, db, yb, pb, rfl, -, -, -, -, -, rmb, rdb, ryb, rpb⟩ := hrel2
          obtain ⟨omb, nmb, cmb, rfl, -, -, -, Rmb⟩ := rmb.open
          obtain ⟨odb, ndb, cdb, rfl, -, -, -, Rdb⟩ := rdb.open
          obtain ⟨oyb, nyb, cyb, rfl, -, -, -, Ryb⟩ := ryb.open
          obtain ⟨opb, npb, cpb, rfl, -, -, -, Rpb⟩ := rpb.open
          clear rmb rdb ryb rpb Rmb Rdb Ryb Rpb
          have V6 := Lib.hid (BxAt.new w6 #[.int .i64 b.freq, .int .i64 b.interval, .int .i64 b.count, .int .i64 b.until_, .slice omb nmb cmb, .slice odb ndb cdb, .slice oyb nyb cyb, .slice opb npb cpb, .int .i64 b.start] 26)
          have X7 := Lib.hid (X6.out.below (show Below w6.heap.size w6 (w6.alloc (.cells #[.int .i64 b.freq, .int .i64 b.interval, .int .i64 b.count, .int .i64 b.until_, .slice omb nmb cmb, .slice odb ndb cdb, .slice oyb nyb cyb, .slice opb npb cpb, .int .i64 b.start] 26)) from belowA _ (Below.refl _ _)))
          have kA7 := X7.out.cell
          have Y7 := Lib.hid (show Below w.heap.size w (w6.alloc (.cells #[.int .i64 b.freq, .int .i64 b.interval, .int .i64 b.count, .int .i64 b.until_, .slice omb nmb cmb, .slice odb ndb cdb, .slice oyb nyb cyb, .slice opb npb cpb, .int .i64 b.start] 26)) from belowA _ Y6.out)
          have Z7 := Lib.hid (show Below w6.heap.size w6 (w6.alloc (.cells #[.int .i64 b.freq, .int .i64 b.interval, .int .i64 b.count, .int .i64 b.until_, .slice omb nmb cmb, .slice odb ndb cdb, .slice oyb nyb cyb, .slice opb npb cpb, .int .i64 b.start] 26)) from belowA _ (Below.refl _ _))
          have V7 := V6
          have E9 := Lib.hid (fun (W : World) (hb : Below w.heap.size w W) (hz : Below w6.heap.size w6 W) => c_t (rule_any _ _ b b W (SB.out.later hz) (SR.out.later hb)) rfl)
          have E15 := Lib.hid (fun (W : World) (hb : Below w.heap.size w W) (hz : Below w6.heap.size w6 W) => c_t (same_any _ _ b b W (SB.out.later hz) (SR.out.later hb)) rfl)
          clear hb6 hr2
          go_wp2_with (first
              | (go_at_call 7; ((with_reducible refine (FX.out _ Y7.out).mono ?_); rintro e w8 ⟨rfl, hb8⟩; have X8 := Lib.hid (X7.out.below hb8); have kA8 := X8.out.cell; have Y8 := Lib.hid (Y7.out.trans (hb8.mono Y7.out.size)); have V8 := Lib.hid (V7.out.below hb8); have kB8 := V8.out.cell; have Z8 := Lib.hid (Z7.out.trans (hb8.mono Z7.out.size)); clear hb8))
              | (go_at_call 11; ((with_reducible refine (T11.out _ Y8.out).mono ?_); rintro e w9 ⟨rfl, hb9⟩; have X9 := Lib.hid (X8.out.below hb9); have kA9 := X9.out.cell; have Y9 := Lib.hid (Y8.out.trans (hb9.mono Y8.out.size)); have V9 := Lib.hid (V8.out.below hb9); have kB9 := V9.out.cell; have Z9 := Lib.hid (Z8.out.trans (hb9.mono Z8.out.size)); clear hb9))
              | (go_at_call 9; ((with_reducible refine (E9.out _ Y9.out Z9.out).mono ?_); rintro e w10 ⟨rfl, hb10⟩; have X10 := Lib.hid (X9.out.below hb10); have kA10 := X10.out.cell; have Y10 := Lib.hid (Y9.out.trans (hb10.mono Y9.out.size)); have V10 := Lib.hid (V9.out.below hb10); have kB10 := V10.out.cell; have Z10 := Lib.hid (Z9.out.trans (hb10.mono Z9.out.size)); clear hb10))
              | (go_at_call 15; ((with_reducible refine (E15.out _ Y10.out Z10.out).mono ?_); rintro e w11 ⟨rfl, hb11⟩; have X11 := Lib.hid (X10.out.below hb11); have kA11 := X11.out.cell; have Y11 := Lib.hid (Y10.out.trans (hb11.mono Y10.out.size)); have V11 := Lib.hid (V10.out.below hb11); have kB11 := V11.out.cell; have Z11 := Lib.hid (Z10.out.trans (hb11.mono Z10.out.size)); clear hb11)))
          go_ret
          exact ⟨rfl, Y11.out⟩
        · exact absurd hno HYES.out
end Go.Proofs.YtcleicjgeflbnaaGreatDoor
