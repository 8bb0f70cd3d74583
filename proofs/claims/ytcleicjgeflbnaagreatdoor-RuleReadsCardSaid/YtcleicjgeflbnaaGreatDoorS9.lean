/- rule.Text at a rule that may be, the walk. Conditions: its rows have at most ten thousand places, the tables are laid. -/
import Derived.Test.YtcleicjgeflbnaaGreatDoorS8
import Derived.Deep.AppendLies
import Derived.Deep.RegionLaw
namespace Go.Proofs.YtcleicjgeflbnaaGreatDoor
open Go.RowKit Go.ChangeShapes Go.WideShapes Go.Deep
set_option linter.all false

set_option maxRecDepth 100000 in
set_option maxHeartbeats 20000000 in
theorem text_yes (cs : List Value) (r : RuleD) (w : World) (h : rRule w cs r) (hf : fewR r) (hL : Laid w) (hm : mayR r) :
    Calls Tryz.prog 13 #[.agg cs.toArray] w fun e w' => e = .returned (.tuple #[.string (toB (textR shortT r)), .bool true]) ∧ Below w.heap.size w w' := by
  obtain ⟨i0, hi, hz0, hz1, hz2⟩ := info_parts info9
  have SR := Lib.hid h
  obtain ⟨m, d, y, p, rfl, -, -, -, -, -, hmm, hd, hy, hp⟩ := h
  obtain ⟨om, nm, cm, rfl, lm, -, -, RM⟩ := hmm.open
  obtain ⟨od, nd, cd, rfl, ld, -, -, RD⟩ := hd.open
  obtain ⟨oy, ny, cy, rfl, ly, -, -, RY⟩ := hy.open
  obtain ⟨op, np, cp, rfl, lp, -, -, RP⟩ := hp.open
  have hnm : nm ≤ 10000 := by have := hf.m; omega
  have hnd : nd ≤ 10000 := by have := hf.d; omega
  have hny : ny ≤ 10000 := by have := hf.y; omega
  have hnp : np ≤ 10000 := by have := hf.p; omega
  obtain ⟨p1, p2, p3, p4, p5, p6, p7, p8, p9, p10, p11, p12, p13⟩ := id hm
  have hfq : ∃ fk : Nat, r.freq = ((fk + 1 : Nat) : Int) ∧ fk < 4 := ⟨(r.freq - 1).toNat, by omega, by omega⟩
  have hPL := pre_len r
  obtain ⟨l0, l1, l2, l3, l4, l5, l6, l7, l8⟩ := hPL
  have HL := Lib.hid hL
  obtain ⟨WB, hWB⟩ : ∃ WB, WB = (w.alloc (.cells #[.int .i64 r.freq, .int .i64 r.interval, .int .i64 r.count, .int .i64 r.until_, .slice om nm cm, .slice od nd cd, .slice oy ny cy, .slice op np cp, .int .i64 r.start] 26)) := ⟨_, rfl⟩
  have HWB := Lib.hid hWB
  have HB := Lib.hid (show Below w.heap.size w WB from by rw [hWB]; exact belowA _ (Below.refl _ _))
  have M1 := Lib.hid (fun (W : World) (hb : Below w.heap.size w W) => c_t (may_any _ r W (SR.out.later hb) hf) hm)
  have FF := Lib.hid (fun (W : World) (hb : Below w.heap.size w W) => freqsF W (HL.out.later hb))
  have DF := Lib.hid (fun (W : World) (hb : Below w.heap.size w W) => daysF W (HL.out.later hb))
  have I1 := Lib.hid (fun (W : World) (hb : Below w.heap.size w W) (_ : r.interval ≠ 1) => itoa_any r.interval W (HL.out.later hb) (by omega) (by omega))
  have I2 := Lib.hid (fun (W : World) (hb : Below w.heap.size w W) (_ : 0 < r.count) => itoa_any r.count W (HL.out.later hb) (by unfold endsMay at p5; omega) (by unfold endsMay at p5; omega))
  have I3 := Lib.hid (fun (W : World) (_ : Below w.heap.size w W) (h0 : 0 ≤ r.until_) => short_any r.until_ W h0 (by unfold endsMay at p5; omega))
  have z1 : (toB (Lib.itoa r.interval)).size ≤ 21 := by rw [toB_size]; exact Lib.itoa_length_le _ (by omega) (by omega)
  have z2 : (toB (Lib.itoa r.count)).size ≤ 21 := by rw [toB_size]; exact Lib.itoa_length_le _ (by unfold endsMay at p5; omega) (by unfold endsMay at p5; omega)
  have z3 : (toB (shortT r.until_)).size ≤ 13 := by rw [toB_size, shortT_length]; omega
  have z4 : (toB (dayT r.start)).size ≤ 2 := by rw [toB_size]; exact dayT_len _
  have J4 := Lib.hid (fun (v : Value) (W : World) (ht : TS w WB (pre3 r) v W) => (show Calls Tryz.prog 28 #[v, .string ⟨#[66, 89, 77, 79, 78, 84, 72, 61]⟩, .slice om nm cm, .func (.func 26) #[] #[]] W _ from joinI_any (w.heap.size + 1) v (pre3 r) kBYMONTH om nm cm r.byMonth W (HL.out.later ht.bel) ht.sz ht.own (by omega) (by decide) (RM.later' ht.bel) hnm (fun x hx => Nat.le_trans (Lib.itoa_length_le x (wfi_lo (row_wfi RM x hx)) (wfi_hi (row_wfi RM x hx))) (by omega))))
  have J5 := Lib.hid (fun (v : Value) (W : World) (ht : TS w WB (pre4 r) v W) => (show Calls Tryz.prog 28 #[v, .string ⟨#[66, 89, 77, 79, 78, 84, 72, 68, 65, 89, 61]⟩, .slice od nd cd, .func (.func 26) #[] #[]] W _ from joinI_any (w.heap.size + 1) v (pre4 r) kBYMONTHDAY od nd cd r.byMonthDay W (HL.out.later ht.bel) ht.sz ht.own (by omega) (by decide) (RD.later' ht.bel) hnd (fun x hx => Nat.le_trans (Lib.itoa_length_le x (wfi_lo (row_wfi RD x hx)) (wfi_hi (row_wfi RD x hx))) (by omega))))
  have J6 := Lib.hid (fun (v : Value) (W : World) (ht : TS w WB (pre5 r) v W) => (show Calls Tryz.prog 29 #[v, .string ⟨#[66, 89, 68, 65, 89, 61]⟩, .slice oy ny cy, .func (.func 30) #[] #[]] W _ from joinD_any (w.heap.size + 1) v (pre5 r) kBYDAY oy ny cy r.byDay W (HL.out.later ht.bel) ht.sz ht.own (by omega) (by decide) (RY.later' ht.bel) hny (fun x hx => ⟨(p9.1 x hx).1, (p9.1 x hx).2.1⟩) (fun x hx => dayNT_len x (row_wfd RY x hx))))
  have J7 := Lib.hid (fun (v : Value) (W : World) (ht : TS w WB (pre6 r) v W) => (show Calls Tryz.prog 28 #[v, .string ⟨#[66, 89, 83, 69, 84, 80, 79, 83, 61]⟩, .slice op np cp, .func (.func 26) #[] #[]] W _ from joinI_any (w.heap.size + 1) v (pre6 r) kBYSETPOS op np cp r.bySetPos W (HL.out.later ht.bel) ht.sz ht.own (by omega) (by decide) (RP.later' ht.bel) hnp (fun x hx => Nat.le_trans (Lib.itoa_length_le x (wfi_lo (row_wfi RP x hx)) (wfi_hi (row_wfi RP x hx))) (by omega))))
  have hzf0 : (freqT r.freq).length ≤ 7 := by
    obtain ⟨fk, hfk, hfk4⟩ := hfq
    rw [hfk]
    have hk : fk = 0 ∨ fk = 1 ∨ fk = 2 ∨ fk = 3 := by omega
    rcases hk with rfl | rfl | rfl | rfl <;> decide
  have HTL := Lib.hid (text_le r hf hzf0 (by rw [toB_size] at z1; exact z1) (by rw [toB_size] at z2; exact z2) (by rw [toB_size] at z3; exact z3) (fun x hx => Nat.le_trans (Lib.itoa_length_le x (wfi_lo (row_wfi RM x hx)) (wfi_hi (row_wfi RM x hx))) (by omega)) (fun x hx => Nat.le_trans (Lib.itoa_length_le x (wfi_lo (row_wfi RD x hx)) (wfi_hi (row_wfi RD x hx))) (by omega)) (fun x hx => dayNT_len x (row_wfd RY x hx)) (fun x hx => Nat.le_trans (Lib.itoa_length_le x (wfi_lo (row_wfi RP x hx)) (wfi_hi (row_wfi RP x hx))) (by omega)) (dayT_len _))
  clear hzf0
  have PS := Lib.hid p12
  have PT := Lib.hid p13
  clear hmm hd hy hp RM RD RY RP lm ld ly lp hf hnm hnd hny hnp hL hm p1 p2 p3 p4 p5 p6 p7 p8 p9 p10 p11 p12 p13
  obtain ⟨fk, hfk, hfk4⟩ := hfq
  have hfc := freqsC_at fk hfk4
  have hw1 : IntKind.i64.wrap (r.freq - 1) = (fk : Int) := by rw [IntKind.wrap_i64]; omega
  have hw2 : wrap64 (r.freq - 1) = (fk : Int) := by unfold wrap64; omega
  have hfk4' : (fk : Int) < 4 := by omega
  have HFK := Lib.hid hfk
  have zf : (toB (freqT r.freq)).size ≤ 7 := by
    rw [toB_size, hfk]
    have hk : fk = 0 ∨ fk = 1 ∨ fk = 2 ∨ fk = 3 := by omega
    rcases hk with rfl | rfl | rfl | rfl <;> decide
  rw [← hfk] at hfc
  clear hfk hWB
  go_enter Tryz.func13, Tryz.ntmps13
  go_wp2_with (go_at_call 14; ((with_reducible refine (M1.out _ ?_).mono ?_); (rw [← HWB.out]; exact HB.out); rintro e w1 ⟨rfl, hb⟩
                               have hz1' : w.heap.size < w1.heap.size := Nat.lt_of_lt_of_le (by simp) hb.size
                               have kA : ∀ j, World.cell? w1 ⟨w.heap.size, j, none⟩ = World.cell? (w.alloc (.cells #[.int .i64 r.freq, .int .i64 r.interval, .int .i64 r.count, .int .i64 r.until_, .slice om nm cm, .slice od nd cd, .slice oy ny cy, .slice op np cp, .int .i64 r.start] 26)) ⟨w.heap.size, j, none⟩ := fun j => hb.cell (by simp)
                               have B1 := Lib.hid (show Below w.heap.size w w1 from (belowA _ (Below.refl _ _)).trans (hb.mono (by simp)))
                               clear hb))
  go_cut [4] from 5 (fun v W => Hid (TS w WB (pre0 r) v W))
  case first =>
    go_region_with (go_at_call 25; ((with_reducible refine (FF.out _ ?_).mono ?_); (first | exact B1.out | exact B1.out.drew); rintro e w2 ⟨rfl, rfl⟩))
    all_goals
      go_wp2_with fail
      go_meet
      first
        | exact TS.start _ B1.out hz1' (fun j => (kA j).trans (by rw [HWB.out]))
        | exact (TS.start _ B1.out hz1' (fun j => (kA j).trans (by rw [HWB.out]))).drew
  case rest =>
  have HT : Hid (TS w WB (pre0 r) u4 wc) := hcut
  clear hcut
  have kA := HT.out.box
  rw [HWB.out] at kA
  go_upto_if 18 with (fail)
  go_cut [4] from 5 (fun v W => Hid (TS w WB (pre1 r) v W))
  case first =>
    have hP : ((r.interval != 1) = true ∧ Hid (r.interval ≠ 1)) ∨ ((r.interval != 1) = false ∧ Hid (¬ r.interval ≠ 1)) := bcases (r.interval ≠ 1) (by by_cases h : r.interval = 1 <;> simp [h])
    rcases hP with ⟨b, P⟩ | ⟨b, P⟩
    · go_wp2_with (first
        | (go_at_call 26; ((with_reducible refine (I1.out _ HT.out.bel P.out).mono ?_); rintro e w1 ⟨rfl, hb⟩
                           have HT1 := Lib.hid (HT.out.below hb)
                           clear hb))
        | (at_builtin; refine wpList_append_own (w1.alloc (.cells #[.string (⟨#[73, 78, 84, 69, 82, 86, 65, 76, 61]⟩ ++ toB (Lib.itoa r.interval))] 9)) rfl (.tmp 19) (.tmp 24) 49 rfl (w.heap.size + 1) 9 i0 (.string ⟨#[]⟩) 1 16 Tryz.underlying49 hi hz0 hz1 hz2 rfl (by decide) u4 (pre0 r).length (strs (pre0 r)) rfl ((HT1.out.alloc _).own) ⟨w1.heap.size, 0, none⟩ 1 1 [.string (⟨#[73, 78, 84, 69, 82, 86, 65, 76, 61]⟩ ++ toB (Lib.itoa r.interval))] rfl rfl ?c1 ?c2 ?c3 ?c4 ?c5 ?_))
      case c1 =>
        intro j u hj
        match j, hj with
        | 0, hj => simp at hj; subst hj; simp [Addr.add]
        | (_ + 1), hj => simp at hj
      case c2 => intro u hu; simp at hu; subst hu; rfl
      case c3 => unfold maxLen; omega
      case c4 => omega
      case c5 => have := HT1.out.sz; simp; omega
      intro v' w2 hown hgrow _
      have HT2 := Lib.hid (show TS w WB (pre1 r) v' w2 from (HT1.out.alloc _).grown (by
        unfold pre1
        rw [optP_yes _ P.out, List.length_append, strs_append]
        rw [show (⟨#[73, 78, 84, 69, 82, 86, 65, 76, 61]⟩ : ByteArray) = toB kINTERVAL from rfl, toB_append] at hown
        exact hown) hgrow)
      clear hown hgrow
      go_wp2_with fail
      go_meet
      exact HT2.out
      all_goals (exfalso; have := P.out; omega)
    · go_wp2_with fail
      all_goals (try (exfalso; have := P.out; omega))
      go_meet
      have hn : pre1 r = pre0 r := by unfold pre1; rw [optP_no _ (by have := P.out; omega : ¬ (r.interval ≠ 1)), List.append_nil]
      exact (show TS w WB (pre1 r) u4 _ by rw [hn]; exact HT.out)
  case rest =>
  have HT : Hid (TS w WB (pre1 r) u4 wc) := hcut
  clear hcut
  have kA := HT.out.box
  rw [HWB.out] at kA
  go_upto_if 28 with (fail)
  go_cut [4] from 5 (fun v W => Hid (TS w WB (pre2 r) v W))
  case first =>
    have hP : ((decide (0 < r.count)) = true ∧ Hid (0 < r.count)) ∨ ((decide (0 < r.count)) = false ∧ Hid (¬ 0 < r.count)) := bcases (0 < r.count) rfl
    rcases hP with ⟨b, P⟩ | ⟨b, P⟩
    · go_wp2_with (first
        | (go_at_call 26; ((with_reducible refine (I2.out _ HT.out.bel P.out).mono ?_); rintro e w1 ⟨rfl, hb⟩
                           have HT1 := Lib.hid (HT.out.below hb)
                           clear hb))
        | (at_builtin; refine wpList_append_own (w1.alloc (.cells #[.string (⟨#[67, 79, 85, 78, 84, 61]⟩ ++ toB (Lib.itoa r.count))] 9)) rfl (.tmp 29) (.tmp 34) 49 rfl (w.heap.size + 1) 9 i0 (.string ⟨#[]⟩) 1 16 Tryz.underlying49 hi hz0 hz1 hz2 rfl (by decide) u4 (pre1 r).length (strs (pre1 r)) rfl ((HT1.out.alloc _).own) ⟨w1.heap.size, 0, none⟩ 1 1 [.string (⟨#[67, 79, 85, 78, 84, 61]⟩ ++ toB (Lib.itoa r.count))] rfl rfl ?c1 ?c2 ?c3 ?c4 ?c5 ?_))
      case c1 =>
        intro j u hj
        match j, hj with
        | 0, hj => simp at hj; subst hj; simp [Addr.add]
        | (_ + 1), hj => simp at hj
      case c2 => intro u hu; simp at hu; subst hu; rfl
      case c3 => unfold maxLen; omega
      case c4 => omega
      case c5 => have := HT1.out.sz; simp; omega
      intro v' w2 hown hgrow _
      have HT2 := Lib.hid (show TS w WB (pre2 r) v' w2 from (HT1.out.alloc _).grown (by
        unfold pre2
        rw [optP_yes _ P.out, List.length_append, strs_append]
        rw [show (⟨#[67, 79, 85, 78, 84, 61]⟩ : ByteArray) = toB kCOUNT from rfl, toB_append] at hown
        exact hown) hgrow)
      clear hown hgrow
      go_wp2_with fail
      go_meet
      exact HT2.out
      all_goals (exfalso; have := P.out; omega)
    · go_wp2_with fail
      all_goals (try (exfalso; have := P.out; omega))
      go_meet
      have hn : pre2 r = pre1 r := by unfold pre2; rw [optP_no _ (by have := P.out; omega : ¬ (0 < r.count)), List.append_nil]
      exact (show TS w WB (pre2 r) u4 _ by rw [hn]; exact HT.out)
  case rest =>
  have HT : Hid (TS w WB (pre2 r) u4 wc) := hcut
  clear hcut
  have kA := HT.out.box
  rw [HWB.out] at kA
  go_upto_if 38 with (fail)
  go_cut [4] from 5 (fun v W => Hid (TS w WB (pre3 r) v W))
  case first =>
    have hP : ((decide (0 ≤ r.until_)) = true ∧ Hid (0 ≤ r.until_)) ∨ ((decide (0 ≤ r.until_)) = false ∧ Hid (¬ 0 ≤ r.until_)) := bcases (0 ≤ r.until_) rfl
    rcases hP with ⟨b, P⟩ | ⟨b, P⟩
    · go_wp2_with (first
        | (go_at_call 27; ((with_reducible refine (I3.out _ HT.out.bel P.out).mono ?_); rintro e w1 ⟨rfl, hb⟩
                           have HT1 := Lib.hid (HT.out.below hb)
                           clear hb))
        | (at_builtin; refine wpList_append_own (w1.alloc (.cells #[.string (⟨#[85, 78, 84, 73, 76, 61]⟩ ++ toB (shortT r.until_))] 9)) rfl (.tmp 39) (.tmp 44) 49 rfl (w.heap.size + 1) 9 i0 (.string ⟨#[]⟩) 1 16 Tryz.underlying49 hi hz0 hz1 hz2 rfl (by decide) u4 (pre2 r).length (strs (pre2 r)) rfl ((HT1.out.alloc _).own) ⟨w1.heap.size, 0, none⟩ 1 1 [.string (⟨#[85, 78, 84, 73, 76, 61]⟩ ++ toB (shortT r.until_))] rfl rfl ?c1 ?c2 ?c3 ?c4 ?c5 ?_))
      case c1 =>
        intro j u hj
        match j, hj with
        | 0, hj => simp at hj; subst hj; simp [Addr.add]
        | (_ + 1), hj => simp at hj
      case c2 => intro u hu; simp at hu; subst hu; rfl
      case c3 => unfold maxLen; omega
      case c4 => omega
      case c5 => have := HT1.out.sz; simp; omega
      intro v' w2 hown hgrow _
      have HT2 := Lib.hid (show TS w WB (pre3 r) v' w2 from (HT1.out.alloc _).grown (by
        unfold pre3
        rw [optP_yes _ P.out, List.length_append, strs_append]
        rw [show (⟨#[85, 78, 84, 73, 76, 61]⟩ : ByteArray) = toB kUNTIL from rfl, toB_append] at hown
        exact hown) hgrow)
      clear hown hgrow
      go_wp2_with fail
      go_meet
      exact HT2.out
      all_goals (exfalso; have := P.out; omega)
    · go_wp2_with fail
      all_goals (try (exfalso; have := P.out; omega))
      go_meet
      have hn : pre3 r = pre2 r := by unfold pre3; rw [optP_no _ (by have := P.out; omega : ¬ (0 ≤ r.until_)), List.append_nil]
      exact (show TS w WB (pre3 r) u4 _ by rw [hn]; exact HT.out)
  case rest =>
  have HT : Hid (TS w WB (pre3 r) u4 wc) := hcut
  clear hcut
  have kA := HT.out.box
  rw [HWB.out] at kA
  go_upto_region 10 with (fail)
  go_cut [4] from 5 (fun v W => Hid (TS w WB (pre4 r) v W))
  case first =>
    go_wp2_with (go_at_call 28; ((with_reducible refine (J4.out u4 _ HT.out).mono ?_); rintro e w1 ⟨v', rfl, hown, hgrow⟩
                                 have HT1 := Lib.hid (show TS w WB (pre4 r) v' w1 from HT.out.grown hown hgrow)
                                 clear hown hgrow))
    go_meet
    exact HT1.out
  case rest =>
  have HT : Hid (TS w WB (pre4 r) u4 wc) := hcut
  clear hcut
  have kA := HT.out.box
  rw [HWB.out] at kA
  go_upto_region 11 with (fail)
  go_cut [4] from 5 (fun v W => Hid (TS w WB (pre5 r) v W))
  case first =>
    go_wp2_with (go_at_call 28; ((with_reducible refine (J5.out u4 _ HT.out).mono ?_); rintro e w1 ⟨v', rfl, hown, hgrow⟩
                                 have HT1 := Lib.hid (show TS w WB (pre5 r) v' w1 from HT.out.grown hown hgrow)
                                 clear hown hgrow))
    go_meet
    exact HT1.out
  case rest =>
  have HT : Hid (TS w WB (pre5 r) u4 wc) := hcut
  clear hcut
  have kA := HT.out.box
  rw [HWB.out] at kA
  go_upto_region 12 with (fail)
  go_cut [4] from 5 (fun v W => Hid (TS w WB (pre6 r) v W))
  case first =>
    go_wp2_with (go_at_call 29; ((with_reducible refine (J6.out u4 _ HT.out).mono ?_); rintro e w1 ⟨v', rfl, hown, hgrow⟩
                                 have HT1 := Lib.hid (show TS w WB (pre6 r) v' w1 from HT.out.grown hown hgrow)
                                 clear hown hgrow))
    go_meet
    exact HT1.out
  case rest =>
  have HT : Hid (TS w WB (pre6 r) u4 wc) := hcut
  clear hcut
  have kA := HT.out.box
  rw [HWB.out] at kA
  go_upto_region 13 with (fail)
  go_cut [4] from 5 (fun v W => Hid (TS w WB (pre7 r) v W))
  case first =>
    go_wp2_with (go_at_call 28; ((with_reducible refine (J7.out u4 _ HT.out).mono ?_); rintro e w1 ⟨v', rfl, hown, hgrow⟩
                                 have HT1 := Lib.hid (show TS w WB (pre7 r) v' w1 from HT.out.grown hown hgrow)
                                 clear hown hgrow))
    go_meet
    exact HT1.out
  case rest =>
  have HT : Hid (TS w WB (pre7 r) u4 wc) := hcut
  clear hcut
  have kA := HT.out.box
  rw [HWB.out] at kA
  go_upto_if 64 with (fail)
  go_cut [4] from 5 (fun v W => Hid (TS w WB (pre8 r) v W))
  case first =>
    have hP : (decide (0 < r.start) = true ∧ Hid (0 < r.start)) ∨ (decide (0 < r.start) = false ∧ Hid (¬ 0 < r.start)) := bcases (0 < r.start) rfl
    rcases hP with ⟨b, P⟩ | ⟨b, P⟩
    · obtain ⟨sk, hsk, hsk7⟩ : ∃ sk : Nat, r.start = (sk : Int) ∧ sk < 7 := ⟨r.start.toNat, by have := PT.out; have := P.out; omega, by have := PT.out; have := P.out; omega⟩
      have hdc := daysC_at sk hsk7
      have hsk7' : (sk : Int) < 7 := by omega
      have hsz := HT.out.sz
      rw [hsk] at kA b z4
      have hz5 : ¬ 9223372036854775807 < 5 + (toB (dayT (sk : Int))).size := by omega
      have HSK := Lib.hid hsk
      have OWN0 := Lib.hid (((HT.out.alloc (.cells daysC 9)).alloc (.cells #[.string (⟨#[87, 75, 83, 84, 61]⟩ ++ toB (dayT (sk : Int)))] 9)).drew)
      have OWN := Lib.hid OWN0.out.own
      clear hsk
      go_wp2_with fail
      all_goals (try (exfalso; have := P.out; have := HSK.out; omega))
      go_region_law (first
        | (go_simp; go_at_call 25; ((with_reducible refine (DF.out _ ?_).mono ?_); (first | exact HT.out.bel | exact HT.out.bel.drew); rintro e w2 ⟨rfl, rfl⟩))
        | (refine step_append_lies _ rfl (.tmp 65) (.tmp 72) 49 rfl (w.heap.size + 1) 9 i0 (.string ⟨#[]⟩) 1 16 Tryz.underlying49 hi hz0 hz1 hz2 rfl (by decide) u4 (pre7 r).length (strs (pre7 r)) ?hs OWN.out ⟨wc.heap.size + 1, 0, none⟩ 1 1 [.string (⟨#[87, 75, 83, 84, 61]⟩ ++ toB (dayT (sk : Int)))] ?hx rfl (by
            intro j u hj
            match j, hj with
            | 0, hj => simp at hj; subst hj; simp [Addr.add]
            | (_ + 1), hj => simp at hj) (by intro u hu; simp at hu; subst hu; rfl) (by omega) (by unfold maxLen; omega) (by omega) (by simp; omega) _ rfl ?_; (case hs => rfl); (case hx => (first | rfl | (trace_state; fail))); intro g cap w2 hown hgrow _ _))
      all_goals
        have HT2 := Lib.hid (show TS w WB (pre8 r) (.slice (some ⟨g, 0, none⟩) ((pre7 r).length + 1) cap) w2 from OWN0.out.grown (by
          unfold pre8
          rw [optP_yes _ P.out, List.length_append, strs_append, HSK.out]
          rw [show (⟨#[87, 75, 83, 84, 61]⟩ : ByteArray) = toB kWKST from rfl, toB_append] at hown
          exact hown) hgrow)
        clear hown hgrow
        go_wp2_with fail
        go_meet
        first | exact HT2.out | exact HT2.out.drew
    · go_wp2_with fail
      all_goals (try (exfalso; have := P.out; omega))
      go_meet
      have hn : pre8 r = pre7 r := by unfold pre8; rw [optP_no _ (by have := P.out; omega : ¬ (0 < r.start)), List.append_nil]
      exact (show TS w WB (pre8 r) u4 _ by rw [hn]; exact HT.out)
  case rest =>
  have HT : Hid (TS w WB (pre8 r) u4 wc) := hcut
  clear hcut
  have kA := HT.out.box
  rw [HWB.out] at kA
  obtain ⟨hl, h0 | ⟨g, cap, cur, rfl, hg1, hg2, hg3, hg4, hg5, hg6⟩⟩ := id HT.out.own
  · exact absurd h0.2 (by unfold pre8 pre7 pre6 pre5 pre4 pre3 pre2 pre1 pre0; simp only [List.length_append, List.length_cons]; omega)
  have J := Lib.hid (Tryz.strings_Join g 0 cap ((pre8 r).map toB) ⟨#[59]⟩ wc (fun j y hy => by
      rw [Nat.zero_add, cell_of_row _ _ _ _ _ _ hg2]
      have hy' : (strs (pre8 r))[j]? = some (.string y) := by
        rw [List.getElem?_map] at hy
        unfold strs
        rw [List.getElem?_map]
        cases hq : (pre8 r)[j]? with
        | none => rw [hq] at hy; cases hy
        | some z => rw [hq] at hy; cases hy; rfl
      have hj : j < (pre8 r).length := by have := (List.getElem?_eq_some_iff.1 hy').1; simp [strs] at this; omega
      rw [← hg6, List.getElem?_take_of_lt (by omega), Array.getElem?_toList] at hy'
      exact hy') (by have := (Array.getElem?_eq_some_iff.1 hg2).1; omega) (by rw [List.length_map]; omega) (by rw [List.length_map]; exact hg3)
    (by rw [joinsemi]; exact Nat.le_trans HTL.out (by omega)))
  have J := Lib.hid (show Calls Tryz.prog 31 #[.slice (some ⟨g, 0, none⟩) (pre8 r).length cap, .string ⟨#[59]⟩] wc (fun e w' => e = .returned (.string (toB (Lib.join (pre8 r) [59]))) ∧ Below wc.heap.size wc w') by
    have j := J.out
    rw [joinsemi, List.length_map] at j
    exact j)
  clear hg1 hg2 hg3 hg4 hg5 hg6 hl kA
  go_wp2_with (go_at_call 31; ((with_reducible refine (J.out).mono ?_); rintro e w1 ⟨rfl, hb⟩
                               have HE := Lib.hid (HT.out.bel.trans (hb.mono HT.out.bel.size))
                               clear hb))
  go_ret2
  exact ⟨rfl, HE.out⟩
end Go.Proofs.YtcleicjgeflbnaaGreatDoor
