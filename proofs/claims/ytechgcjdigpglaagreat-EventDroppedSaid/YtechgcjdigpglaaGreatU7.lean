/- ref10.Times. Conditions: the rule may be, the start is a stamp, the rows are not too long. -/
import Derived.Test.YtechgcjdigpglaaGreatTM
import Derived.Test.YtechgcjdigpglaaGreatU2n
import Derived.Test.YtechgcjdigpglaaGreatU5
import Derived.Test.YtechgcjdigpglaaGreatR10
import Derived.Test.YtechgcjdigpglaaGreatK14
import Derived.Deep.DeepCutAuto
namespace Go.Proofs.YtechgcjdigpglaaGreat
open Go.RowKit Go.ChangeShapes Go.WideShapes Go.Deep
set_option linter.all false

theorem bool_dec {b : Bool} {p : Prop} (h : b = true ↔ p) : b = dec p := by
  by_cases hp : p
  · rw [dec_t hp, h.2 hp]
  · rw [dec_f hp, Bool.eq_false_iff.2 fun hb => hp (h.1 hb)]
theorem dec_congr {p q : Prop} (h : p ↔ q) : dec p = dec q := by
  by_cases hq : q
  · rw [dec_t hq, dec_t (h.2 hq)]
  · rw [dec_f hq, dec_f fun hp => hq (h.1 hp)]
/-- The day that a box holds. -/
def dayOf (a : Value) (W : World) : Int := match a with | .pointer (some x) => intOf ((W.cell? x).getD (.int .i64 0)) | _ => 0

theorem dayOf_box {W : World} {b : Nat} {n : Int} {y m d q : Value} (h : ∀ j, W.cell? ⟨b, j, none⟩ = (#[.int .i64 n, y, m, d, q] : Array Value)[j]?) : dayOf (.pointer (some ⟨b, 0, none⟩)) W = n := by
  unfold dayOf
  simp only
  rw [h 0]; rfl

set_option maxHeartbeats 40000000 in
set_option maxRecDepth 100000 in
theorem refTimes_any (cr : List Value) (r : RuleD) (start below : Int) (w : World) (h : rRule w cr r) (hf : fewR r) (hr : mayR r) (hs : startOk start) :
    Calls Tryz.prog 57 #[.agg cr.toArray, .int .i64 start, .int .i64 below] w fun e w' => ∃ v l, e = .returned v ∧ l = (allT r start).filter (fun x => decide (x < below * 1440)) ∧ l.length ≤ 110000 ∧ w'.ownsRow w.heap.size 2 1 v l.length (inC l) ∧ Below w.heap.size w w' := by
  obtain ⟨i6, hi6, hz60, hz61, hz62⟩ := info_parts info64
  obtain ⟨i0, hi, hz0, hz1, hz2⟩ := info_parts infoInt
  have SR := Lib.hid h
  obtain ⟨mv, dv, yv, pv, rfl, -, -, -, -, -, hm, hd, hy, hp⟩ := h
  obtain ⟨om, nm, cm, rfl, -, -, -, -⟩ := hm.open
  obtain ⟨od, nd, cd, rfl, -, -, -, -⟩ := hd.open
  obtain ⟨oy, ny, cy, rfl, -, -, -, -⟩ := hy.open
  obtain ⟨op, np, cp, rfl, -, -, -, -⟩ := hp.open
  obtain ⟨hfr, ⟨hi0, hi1⟩, hst, hends⟩ := hr.may
  obtain ⟨s, hsd⟩ : ∃ s, s = start / 1440 := ⟨_, rfl⟩
  obtain ⟨mi, hmd⟩ : ∃ m, m = start % 1440 := ⟨_, rfl⟩
  have hs0 : 0 ≤ s := by unfold startOk at hs; omega
  have hs1 : s < 109938 := by unfold startOk at hs; omega
  have hm0 : 0 ≤ mi := by omega
  have hm1 : mi < 1440 := by omega
  have st0 : 0 ≤ start := hs.1
  have st1 : start < 158310720 := hs.2
  have hq1 : start.tdiv 1440 = s := by rw [Int.tdiv_eq_ediv_of_nonneg st0, hsd]
  have hq2 : start.tmod 1440 = mi := by rw [Int.tmod_eq_emod_of_nonneg st0, hmd]
  obtain ⟨fin, hfin⟩ : ∃ f, f = (allT r start).filter (fun x => decide (x < below * 1440)) := ⟨_, rfl⟩
  have HFIN := Lib.hid (show fin = (timesF r s mi 0).filter fun x => decide (x < below * 1440) by rw [hfin]; unfold allT; rw [← hsd, ← hmd])
  rw [← hfin]
  have h2f : r.freq = 2 → r.byMonthDay = [] := fun e => List.eq_nil_of_length_eq_zero ((hr.2.2.2.2.2.2.2.1).resolve_left fun h => h e)
  have CMAY := Lib.hid (fun W (hb : Below w.heap.size w W) => c_t (refMay_any _ r W (SR.out.later hb) hf) hr)
  have COF := Lib.hid (show ∀ n, 0 ≤ n → n < 109938 → ∀ W, Calls Tryz.prog 98 #[.int .i64 n] W fun e w' => e = .returned (.agg #[.int .i64 n, .int .i64 (dateY n), .int .i64 (dateM n), .int .i64 (dD n), .int .i64 (n % 7)]) ∧ Below W.heap.size W w' from fun n a b W => of_any n a b W)
  have CBEG := Lib.hid (show ∀ W, Below w.heap.size w W → Calls Tryz.prog 99 #[.agg #[.int .i64 r.freq, .int .i64 r.interval, .int .i64 r.count, .int .i64 r.until_, .slice om nm cm, .slice od nd cd, .slice oy ny cy, .slice op np cp, .int .i64 r.start], .agg #[.int .i64 s, .int .i64 (dateY s), .int .i64 (dateM s), .int .i64 (dD s), .int .i64 (s % 7)]] W fun e w' => e = .returned (.int .i64 (beginF r s)) ∧ Below W.heap.size W w' from fun W hb => refBegin_any _ r s W (SR.out.later hb) hfr hst hs0 hs1)
  have CPER := Lib.hid (show ∀ n, 0 ≤ n → n < 109938 → 0 ≤ perP r s n → ∀ W, Below w.heap.size w W → Calls Tryz.prog 101 #[.agg #[.int .i64 r.freq, .int .i64 r.interval, .int .i64 r.count, .int .i64 r.until_, .slice om nm cm, .slice od nd cd, .slice oy ny cy, .slice op np cp, .int .i64 r.start], .agg #[.int .i64 s, .int .i64 (dateY s), .int .i64 (dateM s), .int .i64 (dD s), .int .i64 (s % 7)], .agg #[.int .i64 n, .int .i64 (dateY n), .int .i64 (dateM n), .int .i64 (dD n), .int .i64 (n % 7)]] W fun e w' => e = .returned (.int .i64 (perP r s n)) ∧ Below W.heap.size W w' from fun n a b c W hb => refPeriod_any _ r s n W (SR.out.later hb) hfr hst hs0 hs1 a b c)
  have CRI := Lib.hid (show ∀ n, 0 ≤ n → n < 109938 → ∀ W, Below w.heap.size w W → Calls Tryz.prog 103 #[.agg #[.int .i64 r.freq, .int .i64 r.interval, .int .i64 r.count, .int .i64 r.until_, .slice om nm cm, .slice od nd cd, .slice oy ny cy, .slice op np cp, .int .i64 r.start], .agg #[.int .i64 s, .int .i64 (dateY s), .int .i64 (dateM s), .int .i64 (dD s), .int .i64 (s % 7)], .agg #[.int .i64 n, .int .i64 (dateY n), .int .i64 (dateM n), .int .i64 (dD n), .int .i64 (n % 7)]] W fun e w' => e = .returned (.bool (dec (okP r s n))) ∧ Below W.heap.size W w' from fun n a b W hb => refRight_any _ r s n W (SR.out.later hb) ⟨hf.m, hf.d, hf.y⟩ hfr h2f a b)
  have CNX := Lib.hid (show ∀ n, 0 ≤ n → n < 109939 → ∀ W, Calls Tryz.prog 100 #[.agg #[.int .i64 n, .int .i64 (dateY n), .int .i64 (dateM n), .int .i64 (dD n), .int .i64 (n % 7)]] W fun e w' => e = .returned (.agg #[.int .i64 (n + 1), .int .i64 (dateY (n + 1)), .int .i64 (dateM (n + 1)), .int .i64 (dD (n + 1)), .int .i64 ((n + 1) % 7)]) ∧ Below W.heap.size W w' from fun n a b W => next_any n a b W)
  have CKE := Lib.hid (fun v xs W (hb : Below w.heap.size w W) (hv : Row W 1 (rI .i64) v xs) (hl : xs.length ≤ 110000) => refKept_any _ r v xs W (SR.out.later hb) hf.p hv hl)
  obtain ⟨b0, hb0⟩ : ∃ b, b = beginF r s := ⟨_, rfl⟩
  have HBG := Lib.hid (begin_ok (r := r) hs0 hs1 hst)
  have HST := Lib.hid (TS.start (mi := mi) (below := below) (r := r) hs0 hs1 hst)
  have hb00 : 0 ≤ b0 := by rw [hb0]; exact HBG.out.1.1
  have hb01 : b0 < 109938 := by have := HBG.out.1.2; omega
  have HB0 := Lib.hid hb0
  rw [← hb0] at CBEG
  have x0 := BxM.new w #[.int .i64 r.freq, .int .i64 r.interval, .int .i64 r.count, .int .i64 r.until_, .slice om nm cm, .slice od nd cd, .slice oy ny cy, .slice op np cp, .int .i64 r.start] 28
  have X0 := Lib.hid (x0.alloc (.cells #[] 2))
  have B0 := Lib.hid (belowA (.cells #[] 2) (belowA (.cells #[.int .i64 r.freq, .int .i64 r.interval, .int .i64 r.count, .int .i64 r.until_, .slice om nm cm, .slice od nd cd, .slice oy ny cy, .slice op np cp, .int .i64 r.start] 28) (Below.refl w.heap.size w)))
  have e7 := empty_own (w.alloc (.cells #[.int .i64 r.freq, .int .i64 r.interval, .int .i64 r.count, .int .i64 r.until_, .slice om nm cm, .slice od nd cd, .slice oy ny cy, .slice op np cp, .int .i64 r.start] 28)) (w.heap.size + 1) 2 (by simp)
  rw [show (w.alloc (.cells #[.int .i64 r.freq, .int .i64 r.interval, .int .i64 r.count, .int .i64 r.until_, .slice om nm cm, .slice od nd cd, .slice oy ny cy, .slice op np cp, .int .i64 r.start] 28)).heap.size = w.heap.size + 1 by simp] at e7
  have E7 := Lib.hid e7
  have HFL := Lib.hid (show fin.length ≤ 110000 by rw [HFIN.out]; exact Nat.le_trans (List.length_filter_le _ _) (timesF_len hs0 hs1 hfr hi0 hm0 hm1))
  have HRR := Lib.hid (And.intro hr (And.intro hst (And.intro hfr hi0)))
  clear x0 e7 hm hd hy hp hf hr hs hsd hmd hb0 hfin h2f hends hst
  go_enter Tryz.func57, Tryz.ntmps57
  go_wp2_with fail
  (with_reducible refine (CMAY.out _ B0.out).mono ?_)
  rintro q w1 ⟨rfl, hb1⟩
  have X1 := Lib.hid (X0.out.below hb1)
  have E1 := Lib.hid (own_laterI E7.out hb1)
  have B1 := Lib.hid (B0.out.trans (hb1.mono B0.out.size))
  have kR1 := X1.out.cell
  clear hb1
  go_wp2_with fail
  (with_reducible refine (COF.out s hs0 hs1 _).mono ?_)
  rintro q w2 ⟨rfl, hb2⟩
  have X2 := Lib.hid (X1.out.below hb2)
  have E2 := Lib.hid (own_laterI E1.out hb2)
  have B2 := Lib.hid (B1.out.trans (hb2.mono B1.out.size))
  have kR2 := X2.out.cell
  have lR2 := X2.out.lt
  clear hb2 kR1
  go_upto_region 7 with fail
  obtain ⟨bs, hbs⟩ : ∃ b, b = w2.heap.size := ⟨_, rfl⟩
  have b3 := belowA (.cells #[] 3) (belowA (.cells #[.int .i64 s, .int .i64 (dateY s), .int .i64 (dateM s), .int .i64 (dD s), .int .i64 (s % 7)] 133) B2.out)
  have x3 := (X2.out.alloc (.cells #[.int .i64 s, .int .i64 (dateY s), .int .i64 (dateM s), .int .i64 (dD s), .int .i64 (s % 7)] 133)).alloc (.cells #[] 3)
  have s3 := (BxM.new w2 #[.int .i64 s, .int .i64 (dateY s), .int .i64 (dateM s), .int .i64 (dD s), .int .i64 (s % 7)] 133).alloc (.cells #[] 3)
  have e3 := own_laterI (own_laterI E2.out ((Below.refl _ _).alloc (Nat.le_refl _) (.cells #[.int .i64 s, .int .i64 (dateY s), .int .i64 (dateM s), .int .i64 (dD s), .int .i64 (s % 7)] 133))) ((Below.refl _ _).alloc (Nat.le_refl _) (.cells #[] 3))
  have l3 := empty_own (w2.alloc (.cells #[.int .i64 s, .int .i64 (dateY s), .int .i64 (dateM s), .int .i64 (dD s), .int .i64 (s % 7)] 133)) (w.heap.size + 1) 3 (by have := X2.out.lt; simp; omega)
  rw [show (w2.alloc (.cells #[.int .i64 s, .int .i64 (dateY s), .int .i64 (dateM s), .int .i64 (dD s), .int .i64 (s % 7)] 133)).heap.size = w2.heap.size + 1 by simp] at l3
  rw [← hbs] at s3 l3
  have hbl : w.heap.size + 1 < bs := by have := B2.out.size; have := (own_low1 E2.out (show (Value.slice (some ⟨w.heap.size + 1, 0, none⟩) 0 0).ownBlock = some (w.heap.size + 1) from rfl)).2; omega
  have B3 := Lib.hid b3; have X3 := Lib.hid x3; have S3 := Lib.hid s3; have E3 := Lib.hid e3; have L3 := Lib.hid l3
  rw [← hbs]
  have HBS := Lib.hid hbs
  have kR3 := X3.out.cell
  have kS3 := S3.out.cell
  clear b3 x3 s3 e3 l3 hbs kR2 lR2
  go_wp2_with fail
  (with_reducible refine (CBEG.out _ B3.out).mono ?_)
  rintro q w3 ⟨rfl, hb3⟩
  have X4 := Lib.hid (X3.out.below hb3)
  have S4 := Lib.hid (S3.out.below hb3)
  have E4 := Lib.hid (own_laterI E3.out hb3)
  have L4 := Lib.hid (own_laterI L3.out hb3)
  have B4 := Lib.hid (B3.out.trans (hb3.mono B3.out.size))
  clear hb3 kR3 kS3
  go_wp2_with fail
  (with_reducible refine (COF.out b0 hb00 hb01 _).mono ?_)
  rintro q w4 ⟨rfl, hb4⟩
  have hn4 : bs + 1 < w4.heap.size := by have := (own_low1 (own_laterI L4.out hb4) (show (Value.slice (some ⟨bs + 1, 0, none⟩) 0 0).ownBlock = some (bs + 1) from rfl)).2; omega
  have b5 : Below w4.heap.size w4 (w4.alloc (.cells #[.int .i64 b0, .int .i64 (dateY b0), .int .i64 (dateM b0), .int .i64 (dD b0), .int .i64 (b0 % 7)] 133)) := (Below.refl _ _).alloc (Nat.le_refl _) _
  have HT0 := Lib.hid (show TMem bs w4.heap.size #[.int .i64 r.freq, .int .i64 r.interval, .int .i64 r.count, .int .i64 r.until_, .slice om nm cm, .slice od nd cd, .slice oy ny cy, .slice op np cp, .int .i64 r.start] #[.int .i64 s, .int .i64 (dateY s), .int .i64 (dateM s), .int .i64 (dD s), .int .i64 (s % 7)] #[.int .i64 b0, .int .i64 (dateY b0), .int .i64 (dateM b0), .int .i64 (dD b0), .int .i64 (b0 % 7)] (.slice (some ⟨w.heap.size + 1, 0, none⟩) 0 0) (.slice (some ⟨bs + 1, 0, none⟩) 0 0) [] [] w (w4.alloc (.cells #[.int .i64 b0, .int .i64 (dateY b0), .int .i64 (dateM b0), .int .i64 (dD b0), .int .i64 (b0 % 7)] 133)) from
    ⟨(B4.out.trans (hb4.mono B4.out.size)).trans (b5.mono (B4.out.trans (hb4.mono B4.out.size)).size), (X4.out.below hb4).below b5, (S4.out.below hb4).below b5, BxM.new w4 _ _, own_laterI (own_laterI E4.out hb4) b5, own_laterI (own_laterI L4.out hb4) b5,
      ⟨fun e => by simp [Value.ownBlock] at e; omega, fun e => by simp [Value.ownBlock] at e; omega⟩, fun e => by simp [Value.ownBlock] at e, fun e => by simp [Value.ownBlock] at e; omega, fun k hk e => by simp [Value.ownBlock] at hk e; omega⟩)
  have HTS := Lib.hid (show TS r s mi below b0 0 [] [] by rw [HB0.out]; exact HST.out)
  clear hb4 b5 X0 X1 X2 X3 X4 S3 S4 E1 E2 E3 E4 E7 L3 L4 B0 B1 B2 B3 B4
  go_wp2_with fail
  go_loopw [7, 9, 10, 11] (fun v7 v9 pv a wr => ∃ (d : Int) (p bd : Nat) (out l : List Int), a = .pointer (some ⟨bd, 0, none⟩) ∧ pv = .int .i64 (p : Nat) ∧ 0 ≤ d ∧ d ≤ 109939 ∧ (p : Int) ≤ d ∧ Hid (TMem bs bd #[.int .i64 r.freq, .int .i64 r.interval, .int .i64 r.count, .int .i64 r.until_, .slice om nm cm, .slice od nd cd, .slice oy ny cy, .slice op np cp, .int .i64 r.start] #[.int .i64 s, .int .i64 (dateY s), .int .i64 (dateM s), .int .i64 (dD s), .int .i64 (s % 7)] #[.int .i64 d, .int .i64 (dateY d), .int .i64 (dateM d), .int .i64 (dD d), .int .i64 (d % 7)] v7 v9 out l w wr) ∧ Hid ((d ≤ 109938 ∧ beginF r s ≤ d ∧ TS r s mi below d p out l) ∨ (d = 109939 ∧ out = fin))) (fun _ _ _ a wr => (109940 - dayOf a wr).toNat)
  case atStart => exact ⟨b0, 0, w4.heap.size, [], [], rfl, rfl, hb00, by omega, by simpa using hb00, HT0, .inl ⟨by omega, by rw [← HB0.out]; exact Int.le_refl _, HTS.out⟩⟩
  case round =>
    clear HT0 HTS hn4
    obtain ⟨d, p, bd, out, l, rfl, rfl, hd0, hd1, hp1, HT, HS⟩ := hrel
    obtain ⟨wl, rfl⟩ : ∃ x, x = wr := ⟨_, rfl⟩
    have kR := HT.out.xr.cell
    have kS := HT.out.xs.cell
    have kD := HT.out.xd.cell
    have hday : dayOf (.pointer (some ⟨bd, 0, none⟩)) wl = d := by unfold dayOf; simp [kD, intOf]
    have HDAY := Lib.hid hday
    clear hday
    by_cases hlast : d = 109939
    · have HO := Lib.hid (HS.out.elim (fun h => absurd h.1 (by omega)) fun h => h.2)
      have c1 : decide (d ≤ 109938) = false := decide_eq_false (by omega)
      clear hlast hd0 hd1
      go_wp2_with fail
      go_ret
      exact ⟨_, fin, rfl, rfl, HFL.out, by rw [← HO.out]; exact own_base HT.out.o7 (by omega), HT.out.bel⟩
    · have hms := HS.out.elim id (fun h => absurd h.1 hlast)
      obtain ⟨hd2, hbd, hts⟩ := hms
      have HTS := Lib.hid hts
      have HBD := Lib.hid hbd
      have c1 : decide (d ≤ 109938) = true := decide_eq_true hd2
      clear hlast hd1 hbd hts HS
      go_upto_if 44 with fail
      go_cut [12] (fun v W => v = .int .i64 (if d = 109938 then 0 else perP r s d) ∧ Hid (TMem bs bd #[.int .i64 r.freq, .int .i64 r.interval, .int .i64 r.count, .int .i64 r.until_, .slice om nm cm, .slice od nd cd, .slice oy ny cy, .slice op np cp, .int .i64 r.start] #[.int .i64 s, .int .i64 (dateY s), .int .i64 (dateM s), .int .i64 (dD s), .int .i64 (s % 7)] #[.int .i64 d, .int .i64 (dateY d), .int .i64 (dateM d), .int .i64 (dD d), .int .i64 (d % 7)] u7 u9 out l w W))
      case first =>
        by_cases hend : d = 109938
        · have c2 : decide (d < 109938) = false := decide_eq_false (by omega)
          have HP := Lib.hid (show (if d = 109938 then 0 else perP r s d) = 0 from if_pos hend)
          have hnd : ¬ d < 109938 := by omega
          clear hend
          go_wp2_with fail
          go_meet
          exact ⟨by rw [HP.out], HT⟩
        · have c2 : decide (d < 109938) = true := decide_eq_true (by omega)
          have hdl : d < 109938 := by omega
          have HP := Lib.hid (show (if d = 109938 then 0 else perP r s d) = perP r s d from if_neg hend)
          have hpp : 0 ≤ perP r s d := ((HBG.out.2 d hd0 hdl).2 HBD.out)
          have C := Lib.hid (CPER.out d hd0 hdl hpp wl HT.out.bel)
          clear hend hpp
          go_wp2_with fail
          (with_reducible refine C.out.mono ?_)
          rintro q w5 ⟨rfl, hb5⟩
          have HT5 := Lib.hid (HT.out.below hb5)
          have HB5 := Lib.hid hb5
          clear hb5
          go_wp2_with fail
          go_meet
          exact ⟨by rw [HP.out], HT5⟩
      case rest =>
      obtain ⟨rfl, HT1⟩ := hcut
      clear HT kR kS kD
      have kR := HT1.out.xr.cell
      have kS := HT1.out.xs.cell
      have kD := HT1.out.xd.cell
      obtain ⟨P, hP⟩ : ∃ P, P = (if d = 109938 then 0 else perP r s d) := ⟨_, rfl⟩
      have HPD := Lib.hid hP
      rw [← hP]
      clear hP
      go_upto_region 13 with fail
      go_cut [56] (fun v W => v = .bool (dec (¬ P = p ∨ d = 109938)) ∧ W = wc)
      case first =>
        by_cases hPp : P = p
        · have e1 : (P != (p : Int)) = false := by simp [hPp]
          have e0 : (P == (p : Int)) = true := by simp [hPp]
          by_cases hend : d = 109938
          · have e2 : (d == 109938) = true := by simp [hend]
            have HV := Lib.hid (dec_t (show ¬ P = p ∨ d = 109938 from .inr hend))
            clear hPp hend
            go_wp2_with fail
            go_meet
            exact ⟨by rw [HV.out], by trivial⟩
          · have e2 : (d == 109938) = false := by simp [hend]
            have HV := Lib.hid (dec_f (show ¬ (¬ P = p ∨ d = 109938) from fun h => h.elim (fun h => h hPp) hend))
            clear hPp hend
            go_wp2_with fail
            go_meet
            exact ⟨by rw [HV.out], by trivial⟩
        · have e1 : (P != (p : Int)) = true := by simp [hPp]
          have e0 : (P == (p : Int)) = false := by simp [hPp]
          have HV := Lib.hid (dec_t (show ¬ P = p ∨ d = 109938 from .inl hPp))
          clear hPp
          go_wp2_with fail
          go_meet
          exact ⟨by rw [HV.out], by trivial⟩
      case rest =>
      obtain ⟨rfl, rfl⟩ := hcut
      go_upto_if 56 with fail
      go_cut [7, 9, 10] (fun v7 v9 v10 W => ∃ (q : Nat) (out' l' : List Int), v10 = .int .i64 (q : Nat) ∧ (q : Int) ≤ d + 1 ∧ Hid (TMem bs bd #[.int .i64 r.freq, .int .i64 r.interval, .int .i64 r.count, .int .i64 r.until_, .slice om nm cm, .slice od nd cd, .slice oy ny cy, .slice op np cp, .int .i64 r.start] #[.int .i64 s, .int .i64 (dateY s), .int .i64 (dateM s), .int .i64 (dD s), .int .i64 (s % 7)] #[.int .i64 d, .int .i64 (dateY d), .int .i64 (dateM d), .int .i64 (dD d), .int .i64 (d % 7)] v7 v9 out' l' w W) ∧ Hid ((d < 109938 ∧ P = q ∧ perP r s d = q ∧ TS r s mi below d q out' l') ∨ (d = 109938 ∧ out' = fin)))
      case first =>
        by_cases hfl : ¬ P = p ∨ d = 109938
        · have e1 := dec_t hfl
          have hper : d < 109938 → perP r s d = p + 1 := fun h => by
            have h1 := HTS.out.per hs0 hs1 HRR.out.2.1 HBD.out h
            have h2 : P = perP r s d := by rw [HPD.out, if_neg (by omega)]
            rcases hfl with h3 | h3
            · rw [h2] at h3; omega
            · omega
          have HPER := Lib.hid hper
          have HKD := Lib.hid (HTS.out.kept hs0 hs1 HRR.out.2.1 hd0 hd2 hper)
          have hl : l.length ≤ 110000 := by rw [HTS.out.l_]; exact Nat.le_trans (got_len HBG.out.1.1 hd2) (by omega)
          have hwf : ∀ x ∈ l, wfi .i64 x := fun x hx => by
            rw [HTS.out.l_] at hx
            unfold gotD at hx
            split at hx
            · have := mem_ints.1 (List.mem_filter.1 hx).1; have := HBG.out.1.1; exact wfi_days (by omega) (by omega)
            · cases hx
          have CK := Lib.hid (CKE.out _ l wc HT1.out.bel (row_ints HT1.out.o9 hwf) hl)
          clear hfl hper hl hwf
          go_wp2_with fail
          rotate_left
          · exact absurd (e1.symm.trans ‹dec (¬ P = p ∨ d = 109938) = false›) (by decide)
          (with_reducible refine CK.out.mono ?_)
          rintro q w6 ⟨v13, rfl, hv13, hb6⟩
          rw [HKD.out] at hv13
          have HT6 := Lib.hid (show TMem bs bd #[.int .i64 r.freq, .int .i64 r.interval, .int .i64 r.count, .int .i64 r.until_, .slice om nm cm, .slice od nd cd, .slice oy ny cy, .slice op np cp, .int .i64 r.start] #[.int .i64 s, .int .i64 (dateY s), .int .i64 (dateM s), .int .i64 (dD s), .int .i64 (s % 7)] #[.int .i64 d, .int .i64 (dateY d), .int .i64 (dateM d), .int .i64 (dD d), .int .i64 (d % 7)] u7 v13 out (keptD r s p) w w6 from by
            rcases hv13 with ⟨rfl, e⟩ | ho
            · rw [e]; exact HT1.out.below hb6
            · exact HT1.out.newk hb6 ho)
          obtain ⟨o13, c13, rfl⟩ := own_slice2 HT6.out.o9
          obtain ⟨n13, hn13⟩ : ∃ n, n = (keptD r s p).length := ⟨_, rfl⟩
          rw [← hn13]
          have HN13 := Lib.hid hn13
          have hn13b : n13 ≤ 110000 := by
            rw [hn13]
            have := rise_len2 (keptD_rise (r := r) (s := s) p) (a := 0) (b := 109938) fun x hx => (mem_keptD hx).1
            omega
          rw [← hn13] at HT6
          have HWF := Lib.hid (show ∀ x ∈ keptD r s p, wfi .i64 x from fun x hx => by have := (mem_keptD hx).1; exact wfi_days (by omega) (by omega))
          have HT7 := Lib.hid (show TMem bs bd #[.int .i64 r.freq, .int .i64 r.interval, .int .i64 r.count, .int .i64 r.until_, .slice om nm cm, .slice od nd cd, .slice oy ny cy, .slice op np cp, .int .i64 r.start] #[.int .i64 s, .int .i64 (dateY s), .int .i64 (dateM s), .int .i64 (dD s), .int .i64 (s % 7)] #[.int .i64 d, .int .i64 (dateY d), .int .i64 (dateM d), .int .i64 (dD d), .int .i64 (d % 7)] u7 (.slice o13 n13 c13) (outF r s mi below (doneL r s p ++ (keptD r s p).take 0)) (keptD r s p) w w6 by
            rw [List.take_zero, List.append_nil, ← HTS.out.o_]; exact HT6.out)
          clear hb6 hv13 hn13 kR kS kD
          go_wp2_with fail
          go_loopw [7, 62] (fun v7 i wr => ∃ k : Nat, k ≤ n13 ∧ i = .int .i64 (k : Nat) ∧ Hid (TMem bs bd #[.int .i64 r.freq, .int .i64 r.interval, .int .i64 r.count, .int .i64 r.until_, .slice om nm cm, .slice od nd cd, .slice oy ny cy, .slice op np cp, .int .i64 r.start] #[.int .i64 s, .int .i64 (dateY s), .int .i64 (dateM s), .int .i64 (dD s), .int .i64 (s % 7)] #[.int .i64 d, .int .i64 (dateY d), .int .i64 (dateM d), .int .i64 (dD d), .int .i64 (d % 7)] v7 (.slice o13 n13 c13) (outF r s mi below (doneL r s p ++ (keptD r s p).take k)) (keptD r s p) w wr)) (fun _ i _ => n13 - (intOf i).toNat)
          case atStart => exact ⟨0, Nat.zero_le _, rfl, HT7⟩
          case round =>
            clear HT6 HT7
            obtain ⟨k, hk, rfl, HTk⟩ := hrel
            obtain ⟨wk, rfl⟩ : ∃ x, x = wr := ⟨_, rfl⟩
            have kR := HTk.out.xr.cell
            have kS := HTk.out.xs.cell
            have kD := HTk.out.xd.cell
            by_cases hlt : k < n13
            · have hlt' : (k : Int) < (n13 : Int) := by omega
              obtain ⟨x, a1, hx, hoa, _, e0⟩ := (row_ints HTk.out.o9 HWF.out).intAt (Below.refl _ _) k hlt
              subst hoa
              have HX := Lib.hid hx
              have hxm := (mem_keptD (List.mem_of_getElem? hx)).1
              obtain ⟨hx0, hx1⟩ := hxm
              have HK := Lib.hid (kept_step (r := r) (s := s) (p := p) (below := below) hm0 hm1 hx)
              obtain ⟨O, hO⟩ : ∃ O, O = outF r s mi below (doneL r s p ++ (keptD r s p).take k) := ⟨_, rfl⟩
              have hOl : O.length ≤ 109938 := by rw [hO]; exact done_len
              have HOE := Lib.hid hO
              rw [← hO] at HK HTk
              have hv1 : wrap64 (x * 1440) = x * 1440 := by unfold wrap64; omega
              have hv2 : wrap64 (x * 1440 + mi) = x * 1440 + mi := by unfold wrap64; omega
              clear hx hO
              obtain ⟨o7, c7, hu7⟩ := own_slice2 HTk.out.o7
              subst hu7
              go_upto_region 19 with fail
              go_cut [110] (fun v W => (∃ b, v = .bool b ∧ Hid (b = dec (skipP r s mi below O.length x))) ∧ ∃ q, W = wk.drewN q)
              case first =>
                refine wp_region_quiet_lit (by kernel_rfl) (by kernel_rfl) ?_
                repeat (any_goals (first | go_big_quiet_step (fail) | quiet_step (fail) | (refine wpQuiet_step (fun K hK => ?_); go_simp; split <;> (refine hK _ ?_; clear hK K))))
                all_goals (refine wpQuiet_nil ?_; intro _ hw'; obtain ⟨nq, hw''⟩ := hw'; subst hw'')
                all_goals go_wp2_with fail
                all_goals go_meet
                all_goals refine ⟨⟨_, rfl, Lib.hid (bool_dec ?_)⟩, _, rfl⟩
                all_goals (clear HTk HK CMAY COF CBEG CPER CRI CNX CKE HFIN HBG HST HFL HRR HPER HKD HTS HBD HDAY HPD HWF HN13 HX HOE SR; unfold skipP overG; simp only [Bool.or_eq_true, Bool.and_eq_true, Bool.true_or, Bool.or_true, Bool.false_or, Bool.or_false, Bool.and_false, Bool.false_and, Bool.and_true, Bool.true_and, decide_eq_true_eq, decide_eq_false_iff_not, beq_iff_eq, Int.not_lt, Int.not_le, true_iff, false_iff, Bool.false_eq_true, not_or, not_and] at *; first | omega | grind)
              case rest =>
              obtain ⟨⟨b, rfl, HBv⟩, m, rfl⟩ := hcut
              have HTq := Lib.hid (HTk.out.below (below_drewN (Below.refl _ _) m))
              cases b with
              | true =>
                have HO2 := Lib.hid (show outF r s mi below (doneL r s p ++ (keptD r s p).take (k + 1)) = O by rw [HK.out, if_pos HBv.out.symm, List.append_nil])
                go_wp2_with fail
                go_roundw
                case measure => simp [intOf]; omega
                case rel => exact ⟨k + 1, by omega, by go_num, Lib.hid (by rw [HO2.out]; exact HTq.out)⟩
              | false =>
                have HO2 := Lib.hid (show outF r s mi below (doneL r s p ++ (keptD r s p).take (k + 1)) = O ++ [x * 1440 + mi] by rw [HK.out, if_neg (by rw [← HBv.out]; decide)])
                have HTa := Lib.hid (HTq.out.below ((Below.refl _ _).alloc (Nat.le_refl _) (.cells #[.int .i64 (x * 1440 + mi)] 2)))
                have HSZ := Lib.hid (show w.heap.size + 1 ≤ ((wk.drewN m).alloc (.cells #[.int .i64 (x * 1440 + mi)] 2)).heap.size from by have := HTa.out.xr.lt; omega)
                have HCE := Lib.hid (show World.cell? ((wk.drewN m).alloc (.cells #[.int .i64 (x * 1440 + mi)] 2)) ⟨(wk.drewN m).heap.size, 0, none⟩ = some (.int .i64 (x * 1440 + mi)) by rw [cell_of_row _ _ _ _ _ _ (heap_alloc_new _ _)]; rfl)
                go_wp2_with (at_builtin; refine append_own1 ((wk.drewN m).alloc (.cells #[.int .i64 (x * 1440 + mi)] 2)) rfl (.tmp 111) (.tmp 113) 29 rfl (w.heap.size + 1) 2 i6 (.int .i64 0) under64 hi6 hz60 hz61 hz62 rfl (.slice o7 O.length c7) O.length (inC O) rfl HTa.out.o7 ⟨(wk.drewN m).heap.size, 0, none⟩ (.int .i64 (x * 1440 + mi)) rfl HCE.out rfl (by unfold maxLen; omega) (by omega) HSZ.out ?_)
                intro v' w4 hown hgrow hv'
                have HT4 := Lib.hid (HTa.out.app7 hown hgrow (hv'.imp id fun h k hk => by have := h k hk; simp; omega))
                clear hown hgrow hv'
                go_wp2_with fail
                go_roundw
                case measure => simp [intOf]; omega
                case rel => exact ⟨k + 1, by omega, by go_num, Lib.hid (by rw [HO2.out]; exact HT4.out)⟩
            · obtain rfl : n13 = k := by omega
              have HALL := Lib.hid (show outF r s mi below (doneL r s p ++ (keptD r s p).take n13) = outF r s mi below (doneL r s (p + 1)) by rw [doneL_step, HN13.out, List.take_length])
              have HTe := Lib.hid (show TMem bs bd #[.int .i64 r.freq, .int .i64 r.interval, .int .i64 r.count, .int .i64 r.until_, .slice om nm cm, .slice od nd cd, .slice oy ny cy, .slice op np cp, .int .i64 r.start] #[.int .i64 s, .int .i64 (dateY s), .int .i64 (dateM s), .int .i64 (dD s), .int .i64 (s % 7)] #[.int .i64 d, .int .i64 (dateY d), .int .i64 (dateM d), .int .i64 (dD d), .int .i64 (d % 7)] u7 (.slice o13 n13 c13) (outF r s mi below (doneL r s (p + 1))) (keptD r s p) w wk by rw [← HALL.out]; exact HTk.out)
              clear hlt HTk
              by_cases hb : below ≤ d
              · have c3 : decide (below ≤ d) = true := decide_eq_true hb
                have HO := Lib.hid (show outF r s mi below (doneL r s (p + 1)) = fin by rw [HFIN.out]; exact HTS.out.done HRR.out.1 hs0 hs1 hm0 hm1 hd2 hd0 HPER.out (.inl hb))
                go_wp2_with fail
                go_ret
                exact ⟨_, fin, rfl, rfl, HFL.out, by rw [← HO.out]; exact own_base HTe.out.o7 (by omega), HTe.out.bel⟩
              · have c3 : decide (below ≤ d) = false := decide_eq_false hb
                have HTn := Lib.hid HTe.out.new9
                have HPV := Lib.hid (show (d < 109938 → P = ((p + 1 : Nat) : Int) ∧ perP r s d = ((p + 1 : Nat) : Int)) ∧ (d = 109938 → P = 0) from ⟨fun h => by
                  have h2 : P = perP r s d := by rw [HPD.out, if_neg (by omega)]
                  have := HPER.out h; exact ⟨by omega, by omega⟩, fun h => by rw [HPD.out, if_pos h]⟩)
                go_wp2_with fail
                go_meet
                by_cases hlast : d = 109938
                · refine ⟨0, _, [], by rw [HPV.out.2 hlast]; rfl, by omega, HTn, .inr ⟨hlast, ?_⟩⟩
                  rw [HFIN.out]; exact HTS.out.done HRR.out.1 hs0 hs1 hm0 hm1 hd2 hd0 HPER.out (.inr (by omega))
                · have hdl : d < 109938 := by omega
                  refine ⟨p + 1, _, [], by rw [(HPV.out.1 hdl).1], by omega, HTn, .inl ⟨hdl, (HPV.out.1 hdl).1, (HPV.out.1 hdl).2, ?_⟩⟩
                  exact HTS.out.flush hdl hd0 HBG.out.1.1 (HPER.out hdl)
        · have e1 := dec_f hfl
          have e2 : ¬ dec (¬ P = p ∨ d = 109938) = true := by rw [e1]; decide
          have hdl : d < 109938 := by
            by_cases h : d = 109938
            · exact absurd (.inr h) hfl
            · omega
          have hPp : P = p := Classical.byContradiction fun h => hfl (.inl h)
          have HPP := Lib.hid (show P = p ∧ perP r s d = p from ⟨hPp, by rw [← hPp, HPD.out, if_neg (by omega)]⟩)
          clear hfl hPp
          go_wp2_with fail
          go_meet
          exact ⟨p, out, l, rfl, by omega, HT1, .inl ⟨hdl, HPP.out.1, HPP.out.2, HTS.out⟩⟩
      case rest =>
      clear HT1 kR kS kD
      obtain ⟨q, out', l', rfl, hq1, HT2, HS2⟩ := hcut
      obtain ⟨wm, rfl⟩ : ∃ x, x = wc := ⟨_, rfl⟩
      have kR := HT2.out.xr.cell
      have kS := HT2.out.xs.cell
      have kD := HT2.out.xd.cell
      have hP0 : 0 ≤ P := by
        have := HPD.out
        by_cases h : d = 109938
        · rw [if_pos h] at this; omega
        · rw [if_neg h] at this; have := (HBG.out.2 d hd0 (by omega)).2 HBD.out; omega
      go_upto_region 26 with fail
      go_cut [138] (fun v W => (∃ b, v = .bool b ∧ Hid (b = dec (d < 109938 ∧ P % r.interval = 0 ∧ okP r s d))) ∧ Hid (Below wm.heap.size wm W))
      case first =>
        by_cases hdl : d < 109938
        · have c2 : decide (d < 109938) = true := decide_eq_true hdl
          by_cases hpi : P % r.interval = 0
          · have C := Lib.hid (CRI.out d hd0 hdl wm HT2.out.bel)
            have g1 : (P % r.interval == 0) = true := by simpa using hpi
            have HV := Lib.hid (show dec (okP r s d) = dec (d < 109938 ∧ P % r.interval = 0 ∧ okP r s d) from dec_congr ⟨fun h => ⟨hdl, hpi, h⟩, fun h => h.2.2⟩)
            clear hpi
            go_wp2_with fail
            (with_reducible refine C.out.mono ?_)
            rintro q9 w8 ⟨rfl, hb8⟩
            have HB8 := Lib.hid hb8
            clear hb8
            go_wp2_with fail
            go_meet
            exact ⟨⟨_, rfl, HV⟩, HB8⟩
          · have g1 : (P % r.interval == 0) = false := by simpa using hpi
            have HV := Lib.hid (show false = dec (d < 109938 ∧ P % r.interval = 0 ∧ okP r s d) from (dec_f fun h => hpi h.2.1).symm)
            clear hpi
            go_wp2_with fail
            go_meet
            exact ⟨⟨_, rfl, HV⟩, Lib.hid (Below.refl _ _)⟩
        · have c2 : decide (d < 109938) = false := decide_eq_false hdl
          have HV := Lib.hid (show false = dec (d < 109938 ∧ P % r.interval = 0 ∧ okP r s d) from (dec_f fun h => hdl h.1).symm)
          go_wp2_with fail
          go_meet
          exact ⟨⟨_, rfl, HV⟩, Lib.hid (Below.refl _ _)⟩
      case rest =>
      obtain ⟨⟨b, rfl, HBv⟩, HBW⟩ := hcut
      obtain ⟨wo, rfl⟩ : ∃ x, x = wc := ⟨_, rfl⟩
      have HT3 := Lib.hid (HT2.out.below HBW.out)
      clear HT2 HBW kR kS kD
      have kD := HT3.out.xd.cell
      have HNX := Lib.hid (show ∀ l2 : List Int, (l2 = l' ++ if b = true then [d] else []) → ((d < 109938 ∧ TS r s mi below (d + 1) q out' l2) ∨ (d = 109938 ∧ out' = fin)) from fun l2 hl2 => by
        rcases HS2.out with ⟨h1, h2, h3, h4⟩ | h
        · refine .inl ⟨h1, ?_⟩
          have := h4.next HBD.out HBG.out.1.1 h1 h3
          rw [hl2, HBv.out, dec_congr (show (d < 109938 ∧ P % r.interval = 0 ∧ okP r s d) ↔ ((q : Int) % r.interval = 0 ∧ okP r s d) from by rw [h2]; exact ⟨fun h => h.2, fun h => ⟨h1, h⟩⟩)]
          exact this
        · exact .inr h)
      have hll : l'.length ≤ 109938 ∨ d = 109938 := by
        rcases HS2.out with ⟨h1, h2, h3, h4⟩ | h
        · left; rw [h4.l_]; exact got_len HBG.out.1.1 (by omega)
        · exact .inr h.1
      have HLL := Lib.hid hll
      clear hll
      cases b with
      | false =>
        have HS3 := Lib.hid (HNX.out l' (by simp))
        obtain ⟨wp, rfl⟩ : ∃ x, x = wo := ⟨_, rfl⟩
        clear HNX HBv HS2 HLL
        obtain ⟨l2, rfl⟩ : ∃ x, x = l' := ⟨_, rfl⟩
        go_upto_region 9 with fail
        have XN := Lib.hid (BxM.new wp #[.int .i64 d, .int .i64 (dateY d), .int .i64 (dateM d), .int .i64 (dD d), .int .i64 (d % 7)] 133)
        have BN := Lib.hid ((Below.refl wp.heap.size wp).alloc (Nat.le_refl _) (.cells #[.int .i64 d, .int .i64 (dateY d), .int .i64 (dateM d), .int .i64 (dD d), .int .i64 (d % 7)] 133))
        have C := Lib.hid (CNX.out d hd0 (by omega) (wp.alloc (.cells #[.int .i64 d, .int .i64 (dateY d), .int .i64 (dateM d), .int .i64 (dD d), .int .i64 (d % 7)] 133)))
        have kN := XN.out.cell
        clear kD
        go_wp2_with fail
        (with_reducible refine C.out.mono ?_)
        rintro q9 w9 ⟨rfl, hb9⟩
        have XN9 := Lib.hid (XN.out.below hb9)
        have BN9 := Lib.hid (BN.out.trans (hb9.mono BN.out.size))
        have kN9 := XN9.out.cell
        have fN9 := XN9.out.frz
        clear hb9 kN
        go_wp2_with fail
        have X5 := ((((XN9.out.set 0 (.int .i64 (d + 1))).set 1 (.int .i64 (dateY (d + 1)))).set 2 (.int .i64 (dateM (d + 1)))).set 3 (.int .i64 (dD (d + 1)))).set 4 (.int .i64 ((d + 1) % 7))
        simp only [List.setIfInBounds_toArray, List.set_cons_zero, List.set_cons_succ] at X5
        have HX5 := Lib.hid X5
        have HB5 := Lib.hid (below_set5 BN9.out (Nat.le_refl _) (.int .i64 (d + 1)) (.int .i64 (dateY (d + 1))) (.int .i64 (dateM (d + 1))) (.int .i64 (dD (d + 1))) (.int .i64 ((d + 1) % 7)))
        have HD5 := Lib.hid (dayOf_box X5.cell)
        clear X5 kN9 fN9
        go_roundw
        case measure => rw [HDAY.out, HD5.out]; omega
        case rel =>
          refine ⟨d + 1, q, wp.heap.size, out', l2, rfl, rfl, by omega, by omega, by omega, Lib.hid ((HT3.out.below HB5.out).newd HX5.out (fun e => by have := (own_low1 HT3.out.o7 e).2; omega) (fun e => by have := (own_low1 HT3.out.o9 e).2; omega)), Lib.hid ?_⟩
          rcases HS3.out with ⟨h1, h2⟩ | ⟨h1, h2⟩
          · exact .inl ⟨by omega, by have := HBD.out; omega, h2⟩
          · exact .inr ⟨by omega, h2⟩
      | true =>
        have hdl : d < 109938 := (dec_iff.1 HBv.out.symm).1
        have hl9 : l'.length ≤ 109938 := HLL.out.resolve_right (by omega)
        have HTa := Lib.hid (HT3.out.below ((Below.refl _ _).alloc (Nat.le_refl _) (.cells #[.int .i64 d] 3)))
        have HSZ := Lib.hid (show w.heap.size + 1 ≤ (wo.alloc (.cells #[.int .i64 d] 3)).heap.size from by have := HTa.out.xr.lt; omega)
        have HCE := Lib.hid (show World.cell? (wo.alloc (.cells #[.int .i64 d] 3)) ⟨wo.heap.size, 0, none⟩ = some (.int .i64 d) by rw [cell_of_row _ _ _ _ _ _ (heap_alloc_new _ _)]; rfl)
        have HS3 := Lib.hid (HNX.out (l' ++ [d]) (by simp))
        clear HNX HBv HS2 HLL
        go_wp2_with (at_builtin; refine append_own1 (wo.alloc (.cells #[.int .i64 d] 3)) rfl (.tmp 139) (.tmp 142) 25 rfl (w.heap.size + 1) 3 i0 (.int .i64 0) underInts hi hz0 hz1 hz2 rfl u9 l'.length (inC l') rfl HTa.out.o9 ⟨wo.heap.size, 0, none⟩ (.int .i64 d) rfl HCE.out rfl (by unfold maxLen; omega) (by omega) HSZ.out ?_)
        intro v' wp hown hgrow hv'
        have HT4 := Lib.hid (HTa.out.app9 hown hgrow (hv'.imp id fun h k hk => by have := h k hk; simp; omega))
        clear hown hgrow hv' HT3 HTa HSZ HCE hl9 hdl kD
        obtain ⟨l2, hl2⟩ : ∃ x, x = l' ++ [d] := ⟨_, rfl⟩
        rw [← hl2] at HT4 HS3
        obtain ⟨_, HT3⟩ : ∃ x : Unit, Hid (TMem bs bd #[.int .i64 r.freq, .int .i64 r.interval, .int .i64 r.count, .int .i64 r.until_, .slice om nm cm, .slice od nd cd, .slice oy ny cy, .slice op np cp, .int .i64 r.start] #[.int .i64 s, .int .i64 (dateY s), .int .i64 (dateM s), .int .i64 (dD s), .int .i64 (s % 7)] #[.int .i64 d, .int .i64 (dateY d), .int .i64 (dateM d), .int .i64 (dD d), .int .i64 (d % 7)] u7 v' out' l2 w wp) := ⟨(), HT4⟩
        have kD := HT3.out.xd.cell
        clear HT4 hl2
        go_upto_region 9 with fail
        have XN := Lib.hid (BxM.new wp #[.int .i64 d, .int .i64 (dateY d), .int .i64 (dateM d), .int .i64 (dD d), .int .i64 (d % 7)] 133)
        have BN := Lib.hid ((Below.refl wp.heap.size wp).alloc (Nat.le_refl _) (.cells #[.int .i64 d, .int .i64 (dateY d), .int .i64 (dateM d), .int .i64 (dD d), .int .i64 (d % 7)] 133))
        have C := Lib.hid (CNX.out d hd0 (by omega) (wp.alloc (.cells #[.int .i64 d, .int .i64 (dateY d), .int .i64 (dateM d), .int .i64 (dD d), .int .i64 (d % 7)] 133)))
        have kN := XN.out.cell
        clear kD
        go_wp2_with fail
        (with_reducible refine C.out.mono ?_)
        rintro q9 w9 ⟨rfl, hb9⟩
        have XN9 := Lib.hid (XN.out.below hb9)
        have BN9 := Lib.hid (BN.out.trans (hb9.mono BN.out.size))
        have kN9 := XN9.out.cell
        have fN9 := XN9.out.frz
        clear hb9 kN
        go_wp2_with fail
        have X5 := ((((XN9.out.set 0 (.int .i64 (d + 1))).set 1 (.int .i64 (dateY (d + 1)))).set 2 (.int .i64 (dateM (d + 1)))).set 3 (.int .i64 (dD (d + 1)))).set 4 (.int .i64 ((d + 1) % 7))
        simp only [List.setIfInBounds_toArray, List.set_cons_zero, List.set_cons_succ] at X5
        have HX5 := Lib.hid X5
        have HB5 := Lib.hid (below_set5 BN9.out (Nat.le_refl _) (.int .i64 (d + 1)) (.int .i64 (dateY (d + 1))) (.int .i64 (dateM (d + 1))) (.int .i64 (dD (d + 1))) (.int .i64 ((d + 1) % 7)))
        have HD5 := Lib.hid (dayOf_box X5.cell)
        clear X5 kN9 fN9
        go_roundw
        case measure => rw [HDAY.out, HD5.out]; omega
        case rel =>
          refine ⟨d + 1, q, wp.heap.size, out', l2, rfl, rfl, by omega, by omega, by omega, Lib.hid ((HT3.out.below HB5.out).newd HX5.out (fun e => by have := (own_low1 HT3.out.o7 e).2; omega) (fun e => by have := (own_low1 HT3.out.o9 e).2; omega)), Lib.hid ?_⟩
          rcases HS3.out with ⟨h1, h2⟩ | ⟨h1, h2⟩
          · exact .inl ⟨by omega, by have := HBD.out; omega, h2⟩
          · exact .inr ⟨by omega, h2⟩
end Go.Proofs.YtechgcjdigpglaaGreat
