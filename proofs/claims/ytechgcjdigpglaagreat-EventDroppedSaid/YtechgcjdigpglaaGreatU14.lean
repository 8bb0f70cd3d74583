/- The law EventAt, walked; ref11.Members put together. Conditions: each theorem's own. -/
import Derived.Test.YtechgcjdigpglaaGreatU13w
import Derived.Test.YtechgcjdigpglaaGreatU13o
import Derived.Test.YtechgcjdigpglaaGreatP2
import Derived.Test.YtechgcjdigpglaaGreatP7
namespace Go.Proofs.YtechgcjdigpglaaGreat
open Go.RowKit Go.ChangeShapes Go.WideShapes Go.Deep
set_option linter.all false

theorem refMembers_any (cz ce : List Value) (z : ZoneD) (e : EventD) (f t : Int) (w : World) (hz : rZone w cz z) (h : rEvent w ce e) (hf : fewE e) (hnz : z.turns.length ≤ 1000) :
    Calls Tryz.prog 17 #[.agg cz.toArray, .agg ce.toArray, .agg #[.int .i64 f, .int .i64 t]] w (RefEnd z e f t w) := by
  by_cases hok : askR z e f t
  · cases hw : e.world with
    | true => exact refMembers_world cz ce z e f t w hz h hf hnz hok hw
    | false => exact refMembers_own cz ce z e f t w hz h hf hnz hok hw
  · exact refMembers_no cz ce z e f t w hz h hf hnz hok

set_option maxHeartbeats 8000000 in
set_option maxRecDepth 100000 in
theorem at_law (ce : List Value) (e : EventD) (x : Int) (w : World) (h : rEvent w ce e) (wx : wfi .i64 x) :
    Calls Tryz.prog 4 #[.agg ce.toArray, .int .i64 x] w fun r w' => r = .returned (.bool true) ∧ Below w.heap.size w w' := by
  have SE := Lib.hid h
  obtain ⟨om, nm, cm, od, nd, cd, oy, ny, cy, op, np, cp, oe, ne, ce, ol, nl, cl, oc, nc, cc, rfl, SR, l1, l2, l3, R1, R2, R3, -, -⟩ := h.opn
  obtain ⟨A, hA⟩ : ∃ A, A = ([.int .i64 e.start, .int .i64 e.long, .bool e.world, .bool e.again, .int .i64 e.rule.freq, .int .i64 e.rule.interval, .int .i64 e.rule.count, .int .i64 e.rule.until_, .slice om nm cm, .slice od nd cd, .slice oy ny cy, .slice op np cp, .int .i64 e.rule.start, .slice oe ne ce, .slice ol nl cl, .slice oc nc cc] : List Value).toArray := ⟨_, rfl⟩
  have hA16 : A.size = 16 := by rw [hA]; rfl
  have HSZ := Lib.hid (show (Tryz.prog.info? 32).map (·.size) = some A.size by rw [hA16]; kernel_rfl)
  have CG := Lib.hid (fun (W : World) (hb : Below w.heap.size w W) => greatE_any _ e W (SE.out.later hb))
  have CM := Lib.hid (fun (hg : ¬ greatE e) (W : World) (hb : Below w.heap.size w W) => refEMay_any _ e W (SE.out.later hb) (fewE_of hg))
  have CA := Lib.hid (fun (hg : ¬ greatE e) (hm : mayE e) (W : World) (hb : Below w.heap.size w W) => refAt_any _ e x W (SE.out.later hb) (fewE_of hg) hm)
  have CE := Lib.hid (fun (hg : ¬ greatE e) (W : World) (hb : Below w.heap.size w W) => atE_any _ e x W (SE.out.later hb) (fewE_of hg))
  have FX := Lib.hid (fun W => fixed_any W)
  rw [← hA] at CG CM CA CE ⊢
  have X0 := Lib.hid (BxM.new w A 32)
  have HB0 := Lib.hid (show Below w.heap.size w (w.alloc (.cells A 32)) from belowA _ (Below.refl _ _))
  clear SE SR l1 l2 l3 R1 R2 R3 h hA hA16
  by_cases hg : greatE e
  · have CG1 := Lib.hid (fun W hb => c_t (CG.out W hb) hg)
    clear CM CA CE hg
    go_enter Tryz.func4, Tryz.ntmps4
    go_wp2_with (first | (first | (refine wpList_ld ?_ 32 (.tmp 2) rfl w.heap.size rfl 32 A (0, 0) _ X0.out.heap Tryz.underlying32 rfl HSZ.out ?_; focus (simp [Region.wanted, yielded]; done))) | (go_at_call 11; ((with_reducible refine (CG1.out _ HB0.out).mono ?_)); rintro q w1 ⟨rfl, hb1⟩; have X1 := Lib.hid (X0.out.below hb1); have HB1 := Lib.hid (HB0.out.trans (hb1.mono HB0.out.size)); clear hb1) | (go_at_call 12; ((with_reducible refine (FX.out _).mono ?_)); rintro q w2 ⟨rfl, hb2⟩; have X2 := Lib.hid (X1.out.below hb2); have HB2 := Lib.hid (HB1.out.trans (hb2.mono HB1.out.size)); clear hb2))
    go_ret
    exact ⟨rfl, HB2.out⟩
  · have CG1 := Lib.hid (fun W hb => c_f (CG.out W hb) hg)
    by_cases hm : mayE e
    · have CM1 := Lib.hid (fun W hb => c_t (CM.out hg W hb) hm)
      have CA1 := Lib.hid (CA.out hg hm)
      have CE1 := Lib.hid (CE.out hg)
      obtain ⟨b, hb⟩ : ∃ b, b = dec (atE e x) := ⟨_, rfl⟩
      rw [← hb] at CA1 CE1
      clear CM CA CE hg hm hb
      cases b with
      | true =>
        go_enter Tryz.func4, Tryz.ntmps4
        go_wp2_with (first | (first | (refine wpList_ld ?_ 32 (.tmp 2) rfl w.heap.size rfl 32 A (0, 0) _ X2.out.heap Tryz.underlying32 rfl HSZ.out ?_; focus (simp [Region.wanted, yielded]; done)) | (refine wpList_ld ?_ 32 (.tmp 2) rfl w.heap.size rfl 32 A (0, 0) _ X1.out.heap Tryz.underlying32 rfl HSZ.out ?_; focus (simp [Region.wanted, yielded]; done)) | (refine wpList_ld ?_ 32 (.tmp 2) rfl w.heap.size rfl 32 A (0, 0) _ X0.out.heap Tryz.underlying32 rfl HSZ.out ?_; focus (simp [Region.wanted, yielded]; done))) | (go_at_call 11; ((with_reducible refine (CG1.out _ HB0.out).mono ?_)); rintro q w1 ⟨rfl, hb1⟩; have X1 := Lib.hid (X0.out.below hb1); have HB1 := Lib.hid (HB0.out.trans (hb1.mono HB0.out.size)); clear hb1) | (go_at_call 14; ((with_reducible refine (CM1.out _ HB1.out).mono ?_)); rintro q w2 ⟨rfl, hb2⟩; have X2 := Lib.hid (X1.out.below hb2); have HB2 := Lib.hid (HB1.out.trans (hb2.mono HB1.out.size)); clear hb2) | (go_at_call 18; ((with_reducible refine (CA1.out _ HB2.out).mono ?_)); rintro q w3 ⟨rfl, hb3⟩; have X3 := Lib.hid (X2.out.below hb3); have HB3 := Lib.hid (HB2.out.trans (hb3.mono HB2.out.size)); clear hb3) | (go_at_call 12; ((with_reducible refine (FX.out _).mono ?_)); rintro q w4 ⟨rfl, hb4⟩; have X4 := Lib.hid (X3.out.below hb4); have HB4 := Lib.hid (HB3.out.trans (hb4.mono HB3.out.size)); clear hb4) | (first | (refine wpList_ld ?_ 32 (.tmp 2) rfl w.heap.size rfl 32 A (0, 0) _ X4.out.heap Tryz.underlying32 rfl HSZ.out ?_; focus (simp [Region.wanted, yielded]; done)) | (refine wpList_ld ?_ 32 (.tmp 2) rfl w.heap.size rfl 32 A (0, 0) _ X3.out.heap Tryz.underlying32 rfl HSZ.out ?_; focus (simp [Region.wanted, yielded]; done))) | (go_at_call 19; ((with_reducible refine (CE1.out _ HB4.out).mono ?_)); rintro q w5 ⟨rfl, hb5⟩; have X5 := Lib.hid (X4.out.below hb5); have HB5 := Lib.hid (HB4.out.trans (hb5.mono HB4.out.size)); clear hb5))
        go_ret
        exact ⟨rfl, HB5.out⟩
      | false =>
        go_enter Tryz.func4, Tryz.ntmps4
        go_wp2_with (first | (first | (refine wpList_ld ?_ 32 (.tmp 2) rfl w.heap.size rfl 32 A (0, 0) _ X2.out.heap Tryz.underlying32 rfl HSZ.out ?_; focus (simp [Region.wanted, yielded]; done)) | (refine wpList_ld ?_ 32 (.tmp 2) rfl w.heap.size rfl 32 A (0, 0) _ X1.out.heap Tryz.underlying32 rfl HSZ.out ?_; focus (simp [Region.wanted, yielded]; done)) | (refine wpList_ld ?_ 32 (.tmp 2) rfl w.heap.size rfl 32 A (0, 0) _ X0.out.heap Tryz.underlying32 rfl HSZ.out ?_; focus (simp [Region.wanted, yielded]; done))) | (go_at_call 11; ((with_reducible refine (CG1.out _ HB0.out).mono ?_)); rintro q w1 ⟨rfl, hb1⟩; have X1 := Lib.hid (X0.out.below hb1); have HB1 := Lib.hid (HB0.out.trans (hb1.mono HB0.out.size)); clear hb1) | (go_at_call 14; ((with_reducible refine (CM1.out _ HB1.out).mono ?_)); rintro q w2 ⟨rfl, hb2⟩; have X2 := Lib.hid (X1.out.below hb2); have HB2 := Lib.hid (HB1.out.trans (hb2.mono HB1.out.size)); clear hb2) | (go_at_call 18; ((with_reducible refine (CA1.out _ HB2.out).mono ?_)); rintro q w3 ⟨rfl, hb3⟩; have X3 := Lib.hid (X2.out.below hb3); have HB3 := Lib.hid (HB2.out.trans (hb3.mono HB2.out.size)); clear hb3) | (go_at_call 12; ((with_reducible refine (FX.out _).mono ?_)); rintro q w4 ⟨rfl, hb4⟩; have X4 := Lib.hid (X3.out.below hb4); have HB4 := Lib.hid (HB3.out.trans (hb4.mono HB3.out.size)); clear hb4) | (first | (refine wpList_ld ?_ 32 (.tmp 2) rfl w.heap.size rfl 32 A (0, 0) _ X4.out.heap Tryz.underlying32 rfl HSZ.out ?_; focus (simp [Region.wanted, yielded]; done)) | (refine wpList_ld ?_ 32 (.tmp 2) rfl w.heap.size rfl 32 A (0, 0) _ X3.out.heap Tryz.underlying32 rfl HSZ.out ?_; focus (simp [Region.wanted, yielded]; done))) | (go_at_call 19; ((with_reducible refine (CE1.out _ HB4.out).mono ?_)); rintro q w5 ⟨rfl, hb5⟩; have X5 := Lib.hid (X4.out.below hb5); have HB5 := Lib.hid (HB4.out.trans (hb5.mono HB4.out.size)); clear hb5))
        go_ret
        exact ⟨rfl, HB5.out⟩
    · have CM1 := Lib.hid (fun W hb => c_f (CM.out hg W hb) hm)
      have CE1 := Lib.hid (fun W hb => c_f (CE.out hg W hb) (fun h => hm h.1))
      clear CM CA CE hg hm
      go_enter Tryz.func4, Tryz.ntmps4
      go_wp2_with (first | (first | (refine wpList_ld ?_ 32 (.tmp 2) rfl w.heap.size rfl 32 A (0, 0) _ X2.out.heap Tryz.underlying32 rfl HSZ.out ?_; focus (simp [Region.wanted, yielded]; done)) | (refine wpList_ld ?_ 32 (.tmp 2) rfl w.heap.size rfl 32 A (0, 0) _ X1.out.heap Tryz.underlying32 rfl HSZ.out ?_; focus (simp [Region.wanted, yielded]; done)) | (refine wpList_ld ?_ 32 (.tmp 2) rfl w.heap.size rfl 32 A (0, 0) _ X0.out.heap Tryz.underlying32 rfl HSZ.out ?_; focus (simp [Region.wanted, yielded]; done))) | (go_at_call 11; ((with_reducible refine (CG1.out _ HB0.out).mono ?_)); rintro q w1 ⟨rfl, hb1⟩; have X1 := Lib.hid (X0.out.below hb1); have HB1 := Lib.hid (HB0.out.trans (hb1.mono HB0.out.size)); clear hb1) | (go_at_call 14; ((with_reducible refine (CM1.out _ HB1.out).mono ?_)); rintro q w2 ⟨rfl, hb2⟩; have X2 := Lib.hid (X1.out.below hb2); have HB2 := Lib.hid (HB1.out.trans (hb2.mono HB1.out.size)); clear hb2) | (go_at_call 12; ((with_reducible refine (FX.out _).mono ?_)); rintro q w3 ⟨rfl, hb3⟩; have X3 := Lib.hid (X2.out.below hb3); have HB3 := Lib.hid (HB2.out.trans (hb3.mono HB2.out.size)); clear hb3) | (first | (refine wpList_ld ?_ 32 (.tmp 2) rfl w.heap.size rfl 32 A (0, 0) _ X3.out.heap Tryz.underlying32 rfl HSZ.out ?_; focus (simp [Region.wanted, yielded]; done))) | (go_at_call 19; ((with_reducible refine (CE1.out _ HB3.out).mono ?_)); rintro q w4 ⟨rfl, hb4⟩; have X4 := Lib.hid (X3.out.below hb4); have HB4 := Lib.hid (HB3.out.trans (hb4.mono HB3.out.size)); clear hb4))
      go_ret
      exact ⟨rfl, HB4.out⟩
end Go.Proofs.YtechgcjdigpglaaGreat
