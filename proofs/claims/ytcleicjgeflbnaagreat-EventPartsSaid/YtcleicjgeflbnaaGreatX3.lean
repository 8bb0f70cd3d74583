/- rule.Same of two rules. No condition but that the arguments read. -/
import Derived.Test.YtcleicjgeflbnaaGreatX1
import Derived.Test.YtcleicjgeflbnaaGreatE0
namespace Go.Proofs.YtcleicjgeflbnaaGreat
open Go.RowKit Go.ChangeShapes Go.WideShapes Go.Deep
set_option linter.all false

set_option maxHeartbeats 16000000 in
set_option maxRecDepth 100000 in
theorem same_any (cs1 cs2 : List Value) (x1 x2 : RuleD) (w : World) (h1 : rRule w cs1 x1) (h2 : rRule w cs2 x2) :
    Calls Tryz.prog 21 #[.agg cs1.toArray, .agg cs2.toArray] w fun e w' => e = .returned (.bool (dec (x1 = x2))) ∧ Below w.heap.size w w' := by
  obtain ⟨m1, d1, y1, p1, rfl, _, _, _, _, _, rm1, rd1, ry1, rp1⟩ := h1
  rcases x1 with ⟨freq1, interval1, count1, until_1, byMonth1, byMonthDay1, byDay1, bySetPos1, start1⟩
  obtain ⟨m2, d2, y2, p2, rfl, _, _, _, _, _, rm2, rd2, ry2, rp2⟩ := h2
  rcases x2 with ⟨freq2, interval2, count2, until_2, byMonth2, byMonthDay2, byDay2, bySetPos2, start2⟩
  dsimp only at *
  obtain ⟨om1, nm1, cm1, rfl, -, -, -, Rm1⟩ := rm1.open
  obtain ⟨om2, nm2, cm2, rfl, -, -, -, Rm2⟩ := rm2.open
  obtain ⟨od1, nd1, cd1, rfl, -, -, -, Rd1⟩ := rd1.open
  obtain ⟨od2, nd2, cd2, rfl, -, -, -, Rd2⟩ := rd2.open
  obtain ⟨oy1, ny1, cy1, rfl, -, -, -, Ry1⟩ := ry1.open
  obtain ⟨oy2, ny2, cy2, rfl, -, -, -, Ry2⟩ := ry2.open
  obtain ⟨op1, np1, cp1, rfl, -, -, -, Rp1⟩ := rp1.open
  obtain ⟨op2, np2, cp2, rfl, -, -, -, Rp2⟩ := rp2.open
  have CM := Lib.hid (fun (W : World) (hb : Below w.heap.size w W) => equalI_any _ _ byMonth1 byMonth2 W (Rm1.later' hb) (Rm2.later' hb))
  have CD := Lib.hid (fun (W : World) (hb : Below w.heap.size w W) => equalI_any _ _ byMonthDay1 byMonthDay2 W (Rd1.later' hb) (Rd2.later' hb))
  have CY := Lib.hid (fun (W : World) (hb : Below w.heap.size w W) => equalD_any _ _ byDay1 byDay2 W (Ry1.later' hb) (Ry2.later' hb))
  have CP := Lib.hid (fun (W : World) (hb : Below w.heap.size w W) => equalI_any _ _ bySetPos1 bySetPos2 W (Rp1.later' hb) (Rp2.later' hb))
  obtain ⟨bm, hbm⟩ : ∃ b, b = dec (byMonth1 = byMonth2) := ⟨_, rfl⟩
  obtain ⟨bd, hbd⟩ : ∃ b, b = dec (byMonthDay1 = byMonthDay2) := ⟨_, rfl⟩
  obtain ⟨by_, hby⟩ : ∃ b, b = dec (byDay1 = byDay2) := ⟨_, rfl⟩
  obtain ⟨bp, hbp⟩ : ∃ b, b = dec (bySetPos1 = bySetPos2) := ⟨_, rfl⟩
  rw [← hbm] at CM; rw [← hbd] at CD; rw [← hby] at CY; rw [← hbp] at CP
  have HA := Lib.hid (show (RuleD.mk freq1 interval1 count1 until_1 byMonth1 byMonthDay1 byDay1 bySetPos1 start1 = RuleD.mk freq2 interval2 count2 until_2 byMonth2 byMonthDay2 byDay2 bySetPos2 start2) ↔
      (freq1 = freq2 ∧ interval1 = interval2 ∧ count1 = count2 ∧ until_1 = until_2 ∧ bm = true ∧ bd = true ∧ by_ = true ∧ bp = true ∧ start1 = start2) by
    rw [hbm, hbd, hby, hbp, dec_iff, dec_iff, dec_iff, dec_iff, RuleD.mk.injEq])
  have HB := Lib.hid (fun (o1 o2 : Obj) => belowA o2 (belowA o1 (Below.refl w.heap.size w)))
  clear rm1 rd1 ry1 rp1 rm2 rd2 ry2 rp2 Rm1 Rm2 Rd1 Rd2 Ry1 Ry2 Rp1 Rp2 hbm hbd hby hbp
  go_enter Tryz.func21, Tryz.ntmps21
  (try simp only [List.append_eq, List.cons_append, List.nil_append])
  go_wp2_with (first
    | (go_at_call 42; ((with_reducible refine (CM.out _ ?_).mono ?_); (first | exact HB.out _ _ | exact below_drewN (HB.out _ _) _); rintro e w_q ⟨rfl, m_q, rfl⟩))
    | (go_at_call 42; ((with_reducible refine (CD.out _ ?_).mono ?_); (first | exact HB.out _ _ | exact below_drewN (HB.out _ _) _ | exact below_drewN (below_drewN (HB.out _ _) _) _ | exact below_drewN (below_drewN (below_drewN (HB.out _ _) _) _) _ | exact below_drewN (below_drewN (below_drewN (below_drewN (HB.out _ _) _) _) _) _); rintro e w_q ⟨rfl, m_q, rfl⟩))
    | (go_at_call 43; ((with_reducible refine (CY.out _ ?_).mono ?_); (first | exact HB.out _ _ | exact below_drewN (HB.out _ _) _ | exact below_drewN (below_drewN (HB.out _ _) _) _ | exact below_drewN (below_drewN (below_drewN (HB.out _ _) _) _) _ | exact below_drewN (below_drewN (below_drewN (below_drewN (HB.out _ _) _) _) _) _); rintro e w_q ⟨rfl, m_q, rfl⟩))
    | (go_at_call 42; ((with_reducible refine (CP.out _ ?_).mono ?_); (first | exact HB.out _ _ | exact below_drewN (HB.out _ _) _ | exact below_drewN (below_drewN (HB.out _ _) _) _ | exact below_drewN (below_drewN (below_drewN (HB.out _ _) _) _) _ | exact below_drewN (below_drewN (below_drewN (below_drewN (HB.out _ _) _) _) _) _); rintro e w_q ⟨rfl, m_q, rfl⟩)))
  all_goals
    go_ret
    refine ⟨?_, ?_⟩
    · refine ret_dec (?_ : _ = true ↔ _)
      rw [HA.out]
      clear HA HB CM CD CY CP
      simp_all
    · first | exact HB.out _ _ | exact below_drewN (HB.out _ _) _ | exact below_drewN (below_drewN (HB.out _ _) _) _ | exact below_drewN (below_drewN (below_drewN (HB.out _ _) _) _) _ | exact below_drewN (below_drewN (below_drewN (below_drewN (HB.out _ _) _) _) _) _
end Go.Proofs.YtcleicjgeflbnaaGreat
