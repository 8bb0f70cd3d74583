/- The law EventDropped, walked. No condition but that the arguments read. -/
import Derived.Test.YtechgcjdigpglaaGreatZE
import Derived.Deep.DeepCutAuto
import Derived.Deep.WholeRow
import Derived.Deep.RegionHeld3
import Derived.Deep.Light
namespace Go.Proofs.YtechgcjdigpglaaGreat
open Go.RowKit Go.ChangeShapes Go.WideShapes Go.Deep
set_option linter.all false

theorem drop_reads {w W : World} {cs : List Value} {e : EventD} {x : Int} {g : Nat} (h : rEvent w cs e) (hb : Below w.heap.size w W) (hg : W.heap[g]? = some (.cells #[.int .i64 x, .int .i64 x, .int .i64 0] 44 (0, 0))) (hx : wfi .i64 x) :
    rEvent W (cs.set 15 (.slice (some ⟨g, 0, none⟩) 1 1)) (dropE e x) := by
  obtain ⟨r, a, p, c, rfl, h1, h2, hR, hx1, hp, hc⟩ := h
  have hR' := hR
  obtain ⟨m, d, y, q, rfl, -⟩ := hR'
  refine ⟨_, a, p, .slice (some ⟨g, 0, none⟩) 1 1, rfl, h1, h2, hR.later hb, hx1.later' hb, hp.later' hb, ?_⟩
  refine row_own (z := 3) (B := 0) (e := 44) (fun c : ChangeD => [.int .i64 c.at_, .int .i64 c.start, .int .i64 c.long]) _ (xs := [⟨x, x, 0⟩]) ⟨rfl, .inr ⟨g, 1, _, rfl, Nat.zero_le _, hg, Nat.le_refl _, by unfold maxLen; omega, rfl, rfl⟩⟩ fun c hc => ?_
  obtain rfl := List.mem_singleton.1 hc
  exact ⟨rfl, rfl, hx, hx, by simp [wfi, IntKind.min, IntKind.max, IntKind.bits, IntKind.signed]⟩

set_option maxHeartbeats 40000000 in
set_option maxRecDepth 100000 in
theorem drop_law (cz : List Value) (z : ZoneD) (ce : List Value) (e : EventD) (f t a : Int) (w : World) (hz : rZone w cz z) (h : rEvent w ce e) (wf : wfi .i64 f) (wt : wfi .i64 t) (wa : wfi .u16 a) :
    Calls Tryz.prog 5 #[.agg cz.toArray, .agg ce.toArray, .agg #[.int .i64 f, .int .i64 t], .int .u16 a] w fun r w' => r = .returned (.bool true) ∧ Below w.heap.size w w' := by
  have SE := Lib.hid h
  have SZ := Lib.hid hz
  obtain ⟨om, nm, cm, od, nd, cd, oy, ny, cy, op, np, cp, oe, ne, ce, ol, nl, cl, oc, nc, cc, rfl, SR, l1, l2, l3, R1, R2, R3, -, -⟩ := h.opn
  obtain ⟨tz, rfl, -, htz⟩ := hz
  obtain ⟨oz, nz, cz, rfl, lz, -, -, -⟩ := htz.open
  obtain ⟨A, hA⟩ : ∃ A, A = ([.int .i64 e.start, .int .i64 e.long, .bool e.world, .bool e.again, .int .i64 e.rule.freq, .int .i64 e.rule.interval, .int .i64 e.rule.count, .int .i64 e.rule.until_, .slice om nm cm, .slice od nd cd, .slice oy ny cy, .slice op np cp, .int .i64 e.rule.start, .slice oe ne ce, .slice ol nl cl, .slice oc nc cc] : List Value).toArray := ⟨_, rfl⟩
  have hA16 : A.size = 16 := by rw [hA]; rfl
  have HSZ := Lib.hid (show (Tryz.prog.info? 32).map (·.size) = some A.size by rw [hA16]; kernel_rfl)
  have a0 : A[0]? = some (.int .i64 e.start) := by rw [hA]; rfl
  have a1 : A[1]? = some (.int .i64 e.long) := by rw [hA]; rfl
  have a3 : A[3]? = some (.bool e.again) := by rw [hA]; rfl
  have a15 : A[15]? = some (.slice oc nc cc) := by rw [hA]; rfl
  have LZ := Lib.hid lz
  have L3 := Lib.hid l3
  have CG := Lib.hid (fun (W : World) (hb : Below w.heap.size w W) => greatE_any _ e W (SE.out.later hb))
  have CM := Lib.hid (fun (hg : ¬ greatE e) (W : World) (hb : Below w.heap.size w W) => refEMay_any _ e W (SE.out.later hb) (fewE_of hg))
  have FX := Lib.hid (fun W => fixed_any W)
  have HAC := Lib.hid hA
  have HA16 := Lib.hid hA16
  have HA1 := Lib.hid (show A.all (·.oneCell') = true by rw [hA]; simp [Value.oneCell'])
  have ha0 : 0 ≤ a ∧ a ≤ 65535 := by simpa [wfi, IntKind.min, IntKind.max, IntKind.bits, IntKind.signed] using wa
  rw [← hA] at CG CM ⊢
  have HZ0 := Lib.hid (ZE.new #[.int .i64 z.base, .slice oz nz cz] A #[.int .i64 f, .int .i64 t] w)
  have kZ := HZ0.out.xz.cell
  have kS := HZ0.out.xs.cell
  have kE := HZ0.out.xe.cell
  clear SR l1 l2 l3 R1 R2 R3 htz h hA hA16 lz wf wt wa
  go_enter Tryz.func5, Tryz.ntmps5
  go_upto_region 1 with fail
  go_cut [64] (fun v W => (∃ b, v = .bool b ∧ Hid (b = false → nz ≤ 8 ∧ ¬ greatE e ∧ mayE e ∧ e.again = true ∧ e.changes = [] ∧ 0 ≤ f ∧ t ≤ 1073741824 ∧ f < t ∧ t - f ≤ 86400)) ∧ Hid (ZE #[.int .i64 z.base, .slice oz nz cz] A #[.int .i64 f, .int .i64 t] w W))
  case first =>
    by_cases hn8 : nz ≤ 8
    · have d8 : ¬ (8 : Int) < (nz : Int) := by omega
      have d8b : decide ((8 : Int) < (nz : Int)) = false := decide_eq_false d8
      have d8c : decide (8 < nz) = false := decide_eq_false (by omega)
      refine wp_region_lit ?_
      iterate 15 go_step
      refine wpList_ld ?_ 32 (.tmp 5) rfl (w.heap.size + 1) rfl 32 A (0, 0) _ HZ0.out.xe.heap Tryz.underlying32 rfl HSZ.out ?_
      · simp [Region.wanted, yielded]
      by_cases hg : greatE e
      · have CG1 := Lib.hid (fun W hb => c_t (CG.out W hb) hg)
        clear hg
        go_wp2_with fail
        (with_reducible refine (CG1.out _ HZ0.out.bel).mono ?_)
        rintro q w1 ⟨rfl, hb1⟩
        have HZ1 := Lib.hid (HZ0.out.below hb1)
        clear kZ kS kE hb1
        have kZ := HZ1.out.xz.cell
        have kS := HZ1.out.xs.cell
        have kE := HZ1.out.xe.cell
        go_wp2_with fail
        go_meet
        exact ⟨⟨_, rfl, Lib.hid (fun h => by cases h)⟩, HZ1⟩
      · have CG1 := Lib.hid (fun W hb => c_f (CG.out W hb) hg)
        have HG := Lib.hid hg
        go_wp2_with fail
        (with_reducible refine (CG1.out _ HZ0.out.bel).mono ?_)
        rintro q w1 ⟨rfl, hb1⟩
        have HZ1 := Lib.hid (HZ0.out.below hb1)
        clear kZ kS kE hb1
        have kZ := HZ1.out.xz.cell
        have kS := HZ1.out.xs.cell
        have kE := HZ1.out.xe.cell
        dsimp only
        iterate 7 go_step
        refine wpList_ld ?_ 32 (.tmp 5) rfl (w.heap.size + 1) rfl 32 A (0, 0) _ HZ1.out.xe.heap Tryz.underlying32 rfl HSZ.out ?_
        · simp [Region.wanted, yielded]
        by_cases hm : mayE e
        · have CM1 := Lib.hid (fun W hb => c_t (CM.out HG.out W hb) hm)
          have HM := Lib.hid hm
          clear hm
          go_wp2_with fail
          (with_reducible refine (CM1.out _ HZ1.out.bel).mono ?_)
          rintro q w2 ⟨rfl, hb2⟩
          have HZ2 := Lib.hid (HZ1.out.below hb2)
          clear kZ kS kE hb2
          have kZ := HZ2.out.xz.cell
          have kS := HZ2.out.xs.cell
          have kE := HZ2.out.xe.cell
          cases hag : e.again with
          | false =>
            rw [hag] at a3
            clear hag
            go_wp2_with fail
            go_meet
            exact ⟨⟨_, rfl, Lib.hid (fun h => by cases h)⟩, HZ2⟩
          | true =>
            rw [hag] at a3
            have HAG := Lib.hid hag
            clear hag
            by_cases c2 : 0 < nc
            · have d2 : decide ((0 : Int) < (nc : Int)) = true := decide_eq_true (by omega)
              have d2b : decide (0 < nc) = true := decide_eq_true c2
              have d2c : (0 : Int) < (nc : Int) := by omega
              go_wp2_with fail
              go_meet
              exact ⟨⟨_, rfl, Lib.hid (fun h => by cases h)⟩, HZ2⟩
            · have d2 : decide ((0 : Int) < (nc : Int)) = false := decide_eq_false (by omega)
              have d2b : decide (0 < nc) = false := decide_eq_false c2
              have d2c : ¬ (0 : Int) < (nc : Int) := by omega
              have HCH := Lib.hid (show e.changes = [] from List.eq_nil_of_length_eq_zero (by rw [L3.out]; omega))
              by_cases c3 : f < 0
              · have d3 : decide (f < 0) = true := decide_eq_true c3
                go_wp2_with fail
                go_meet
                exact ⟨⟨_, rfl, Lib.hid (fun h => by cases h)⟩, HZ2⟩
              · have d3 : decide (f < 0) = false := decide_eq_false c3
                by_cases c4 : 1073741824 < t
                · have d4 : decide (1073741824 < t) = true := decide_eq_true c4
                  go_wp2_with fail
                  go_meet
                  exact ⟨⟨_, rfl, Lib.hid (fun h => by cases h)⟩, HZ2⟩
                · have d4 : decide (1073741824 < t) = false := decide_eq_false c4
                  by_cases c5 : t ≤ f
                  · have d5 : decide (t ≤ f) = true := decide_eq_true c5
                    go_wp2_with fail
                    go_meet
                    exact ⟨⟨_, rfl, Lib.hid (fun h => by cases h)⟩, HZ2⟩
                  · have d5 : decide (t ≤ f) = false := decide_eq_false c5
                    have hw1 : wrap64 (t - f) = t - f := by unfold wrap64; omega
                    by_cases c6 : 86400 < t - f
                    · have d6 : decide (86400 < t - f) = true := decide_eq_true c6
                      go_wp2_with fail
                      go_meet
                      exact ⟨⟨_, rfl, Lib.hid (fun h => by cases h)⟩, HZ2⟩
                    · have d6 : decide (86400 < t - f) = false := decide_eq_false c6
                      have HV := Lib.hid (show nz ≤ 8 ∧ ¬ greatE e ∧ mayE e ∧ e.again = true ∧ e.changes = [] ∧ 0 ≤ f ∧ t ≤ 1073741824 ∧ f < t ∧ t - f ≤ 86400 from ⟨hn8, HG.out, HM.out, HAG.out, HCH.out, by omega, by omega, by omega, by omega⟩)
                      go_wp2_with fail
                      go_meet
                      exact ⟨⟨_, rfl, Lib.hid (fun _ => HV.out)⟩, HZ2⟩
        · have CM1 := Lib.hid (fun W hb => c_f (CM.out HG.out W hb) hm)
          clear hm
          go_wp2_with fail
          (with_reducible refine (CM1.out _ HZ1.out.bel).mono ?_)
          rintro q w2 ⟨rfl, hb2⟩
          have HZ2 := Lib.hid (HZ1.out.below hb2)
          clear kZ kS kE hb2
          have kZ := HZ2.out.xz.cell
          have kS := HZ2.out.xs.cell
          have kE := HZ2.out.xe.cell
          go_wp2_with fail
          go_meet
          exact ⟨⟨_, rfl, Lib.hid (fun h => by cases h)⟩, HZ2⟩
    · have d8 : (8 : Int) < (nz : Int) := by omega
      have d8b : decide ((8 : Int) < (nz : Int)) = true := decide_eq_true d8
      have d8c : decide (8 < nz) = true := decide_eq_true (by omega)
      go_wp2_with fail
      go_meet
      exact ⟨⟨_, rfl, Lib.hid (fun h => by cases h)⟩, HZ0⟩
  case rest =>
  obtain ⟨⟨b, rfl, HWb⟩, HZc⟩ := hcut
  obtain ⟨wm, rfl⟩ : ∃ x, x = wc := ⟨_, rfl⟩
  clear kZ kS kE
  cases b with
  | true =>
    go_wp2_with (go_at_call 12; ((with_reducible refine (FX.out _).mono ?_)); rintro q w9 ⟨rfl, hb9⟩; have HZ9 := Lib.hid (HZc.out.below hb9); clear hb9)
    go_ret
    exact ⟨rfl, HZ9.out.bel⟩
  | false =>
  obtain ⟨hn8, hg, hm, hag, hch, g0, g1, g2, g3⟩ := HWb.out rfl
  have HG := Lib.hid hg
  have HM := Lib.hid hm
  have HAG := Lib.hid hag
  have HCH := Lib.hid hch
  have st0 : 0 ≤ e.start := hm.1.1
  have st1 : e.start < 158310720 := hm.1.2
  have lg1 : 1 ≤ e.long := hm.2.1
  have lg2 : e.long ≤ 10080 := hm.2.2.1
  have CB := Lib.hid (fun (W : World) (hb : Below w.heap.size w W) => members_any _ _ z e f t W (SZ.out.later hb) (SE.out.later hb) (fewE_of HG.out) (by rw [LZ.out]; omega))
  have CE := Lib.hid (fun (x : Int) (W : World) (hb : Below w.heap.size w W) => atE_any _ e x W (SE.out.later hb) (fewE_of HG.out))
  have CU := Lib.hid (fun (x : Int) (W : World) (hb : Below w.heap.size w W) => refUtc_any _ z x W (SZ.out.later hb) (by rw [LZ.out]; omega))
  have CZM := Lib.hid (fun (W : World) (hb : Below w.heap.size w W) => refZMay_any _ z W (SZ.out.later hb) (by rw [LZ.out]; omega))
  rw [← HAC.out] at CB CE
  clear hg hm hag hch HWb CG CM a3
  go_upto_region 3 with fail
  refine wp_region_lit ?_
  have kZ := HZc.out.xz.cell
  have kS := HZc.out.xs.cell
  iterate 3 go_step
  refine wpList_ld ?_ 32 (.tmp 5) rfl (w.heap.size + 1) rfl 32 A (0, 0) _ HZc.out.xe.heap Tryz.underlying32 rfl HSZ.out ?_
  · simp [Region.wanted, yielded]
  go_wp2_with fail
  (with_reducible refine (CB.out _ HZc.out.bel).mono ?_)
  rintro q w3 ⟨v3, L, rfl, ho3, hs3, hm3, hb3⟩
  have HZ3 := Lib.hid (HZc.out.below hb3)
  have HML := Lib.hid hm3
  obtain ⟨o9, n9, c9, he9, HN9, hc9⟩ : ∃ o9 n9 c9, v3 = .slice o9 n9 c9 ∧ Hid (n9 = L.length) ∧ n9 ≤ 9223372036854775807 := by
    obtain ⟨_, ⟨rfl, h0⟩ | ⟨g, cap, cur, rfl, _, _, h1, h2, _, _⟩⟩ := ho3
    · exact ⟨none, 0, 0, rfl, Lib.hid h0.symm, by omega⟩
    · exact ⟨_, _, _, rfl, Lib.hid rfl, by unfold maxLen at h2; omega⟩
  subst he9
  clear ho3 hs3 hm3 hb3 kZ kS
  have kE := HZ3.out.xe.cell
  have kS := HZ3.out.xs.cell
  have kZ := HZ3.out.xz.cell
  go_wp2_with fail
  go_loopw [10] (fun v wr => ∃ k : Int, v = .int .i64 k ∧ f / 1440 ≤ k ∧ k ≤ t / 1440 + 1 ∧ Hid (ZE #[.int .i64 z.base, .slice oz nz cz] A #[.int .i64 f, .int .i64 t] w wr)) (fun v _ => (t / 1440 + 1 - intOf v).toNat)
  case atStart => exact ⟨f / 1440, rfl, by omega, by omega, HZ3⟩
  case round =>
    clear kE kS kZ
    obtain ⟨k, rfl, k0, k1, HZk⟩ := hrel
    obtain ⟨wl, rfl⟩ : ∃ x, x = wr := ⟨_, rfl⟩
    have kE := HZk.out.xe.cell
    have kS := HZk.out.xs.cell
    have kZ := HZk.out.xz.cell
    by_cases hk : k ≤ t / 1440
    · have dk : decide (k ≤ t / 1440) = true := decide_eq_true hk
      obtain ⟨X, hX⟩ : ∃ X, X = k * 1440 + e.start % 1440 := ⟨_, rfl⟩
      have hX0 : 0 ≤ X := by omega
      have hX1 : X ≤ 1073743500 := by omega
      have hX2 : k * 1440 + e.start % 1440 = X := hX.symm
      have hka : 0 ≤ k + a := by omega
      clear hX
      go_upto_region 8 with fail
      go_cut [101] (fun v W => (∃ b, v = .bool b ∧ Hid (b = false → atE e X)) ∧ Hid (ZE #[.int .i64 z.base, .slice oz nz cz] A #[.int .i64 f, .int .i64 t] w W))
      case first =>
        by_cases c1 : (k + a) % 7 = 0
        · have e1 : ((k + a) % 7 != 0) = false := by simp [c1]
          have e2 : ((k + a) % 7 == 0) = true := by simp [c1]
          by_cases c2 : 158310720 ≤ X
          · have d2 : decide (158310720 ≤ X) = true := decide_eq_true c2
            clear c1
            go_wp2_with fail
            go_meet
            exact ⟨⟨_, rfl, Lib.hid (fun h => by cases h)⟩, HZk⟩
          · have d2 : decide (158310720 ≤ X) = false := decide_eq_false c2
            clear c1
            go_wp2_with (first | (refine wpList_ld ?_ 32 (.tmp 5) rfl (w.heap.size + 1) rfl 32 A (0, 0) _ HZk.out.xe.heap Tryz.underlying32 rfl HSZ.out ?_; focus (simp [Region.wanted, yielded]; done)) | (go_at_call 19; ((with_reducible refine (CE.out X _ HZk.out.bel).mono ?_)); rintro q w4 ⟨rfl, hb4⟩; have HZ4 := Lib.hid (HZk.out.below hb4); clear hb4))
            go_meet
            exact ⟨⟨_, rfl, Lib.hid (fun h => dec_iff.1 (by cases hh : dec (atE e X) with | true => rfl | false => rw [hh] at h; cases h))⟩, HZ4⟩
        · have e1 : ((k + a) % 7 != 0) = true := by simp [c1]
          have e2 : ((k + a) % 7 == 0) = false := by simp [c1]
          clear c1
          go_wp2_with fail
          go_meet
          exact ⟨⟨_, rfl, Lib.hid (fun h => by cases h)⟩, HZk⟩
      case rest =>
      clear kE kS kZ
      obtain ⟨⟨b, rfl, HAb⟩, HZm⟩ := hcut
      obtain ⟨wm, rfl⟩ : ∃ x, x = wc := ⟨_, rfl⟩
      cases b with
      | true =>
        go_wp2_with fail
        go_roundw
        case measure => simp [intOf]; omega
        case rel => exact ⟨k + 1, rfl, by omega, by omega, HZm⟩
      | false =>
        have HAT := Lib.hid (HAb.out rfl)
        clear HZk HAb
        go_upto_region 9 with fail
        refine wp_region_lit ?_
        refine wpList_ld ?_ 32 (.tmp 5) rfl (w.heap.size + 1) rfl 32 A (0, 0) _ HZm.out.xe.heap Tryz.underlying32 rfl HSZ.out ?_
        · simp [Region.wanted, yielded]
        iterate 3 go_step
        refine wpList_store_row rfl 32 (.tmp 12) (.tmp 102) rfl wm.heap.size A rfl rfl 32 _ (heap_alloc_new _ _) HSZ.out (by rw [HA16.out]; rfl) HA1.out ?_
        rw [World.setRow_alloc_new]
        have XA := BxM.new wm A 32
        have XA2 := XA.alloc (.cells #[.int .i64 X, .int .i64 X, .int .i64 0] 44)
        have kN2 := XA2.cell
        have fN2 := XA2.frz
        go_upto_region 11 with fail
        obtain ⟨A2, hA2⟩ : ∃ A2, A2 = A.setIfInBounds 15 (.slice (some ⟨wm.heap.size + 1, 0, none⟩) 1 1) := ⟨_, rfl⟩
        rw [← hA2]
        have HZn0 := HZm.out.below (((Below.refl wm.heap.size wm).alloc (Nat.le_refl _) (.cells A2 32)).alloc (by simp) (.cells #[.int .i64 X, .int .i64 X, .int .i64 0] 44))
        have X20 := (BxM.new wm A2 32).alloc (.cells #[.int .i64 X, .int .i64 X, .int .i64 0] 44)
        have hgc := heap_alloc_new (wm.alloc (.cells A2 32)) (.cells #[.int .i64 X, .int .i64 X, .int .i64 0] 44)
        rw [show (wm.alloc (.cells A2 32)).heap.size = wm.heap.size + 1 by simp] at hgc
        have HSZ2 := Lib.hid (show (Tryz.prog.info? 32).map (·.size) = some A2.size by rw [hA2, Array.size_setIfInBounds]; exact HSZ.out)
        have hlist : A2 = (([.int .i64 e.start, .int .i64 e.long, .bool e.world, .bool e.again, .int .i64 e.rule.freq, .int .i64 e.rule.interval, .int .i64 e.rule.count, .int .i64 e.rule.until_, .slice om nm cm, .slice od nd cd, .slice oy ny cy, .slice op np cp, .int .i64 e.rule.start, .slice oe ne ce, .slice ol nl cl, .slice oc nc cc] : List Value).set 15 (.slice (some ⟨wm.heap.size + 1, 0, none⟩) 1 1)).toArray := by rw [hA2, HAC.out, List.setIfInBounds_toArray]
        obtain ⟨wn, hwn⟩ : ∃ y, y = (wm.alloc (.cells A2 32)).alloc (.cells #[.int .i64 X, .int .i64 X, .int .i64 0] 44) := ⟨_, rfl⟩
        rw [← hwn] at HZn0 X20 hgc ⊢
        have hrd := drop_reads SE.out HZn0.bel hgc (wfi_st (atE_stamp HAG.out HAT.out))
        have CB2 := Lib.hid (members_any _ _ z (dropE e X) f t wn (SZ.out.later HZn0.bel) hrd ⟨(fewE_of HG.out).r, (fewE_of HG.out).x, (fewE_of HG.out).p, by simp [dropE]⟩ (by rw [LZ.out]; omega))
        rw [← hlist] at CB2
        have HZn := Lib.hid HZn0
        have X2 := Lib.hid X20
        clear hA2 HZn0 X20 hgc hlist hwn hrd XA XA2 kN2 fN2 HZm
        have kZ := HZn.out.xz.cell
        have kS := HZn.out.xs.cell
        refine wp_region_lit ?_
        iterate 3 go_step
        refine wpList_ld ?_ 32 (.tmp 12) rfl wm.heap.size rfl 32 A2 (0, 0) _ X2.out.heap Tryz.underlying32 rfl HSZ2.out ?_
        · simp [Region.wanted, yielded]
        go_wp2_with fail
        (with_reducible refine CB2.out.mono ?_)
        rintro q w5 ⟨v5, M, rfl, ho5, hs5, hm5, hb5⟩
        have HZ5 := Lib.hid (HZn.out.below hb5)
        have HCNT := Lib.hid (drop_count HAG.out HAT.out HCH.out HML.out hm5 g0 g1 g2 g3)
        obtain ⟨o5, n5, c5, he5, HN5, hc5⟩ : ∃ o5 n5 c5, v5 = .slice o5 n5 c5 ∧ Hid (n5 = M.length) ∧ n5 ≤ 9223372036854775807 := by
          obtain ⟨_, ⟨rfl, h0⟩ | ⟨g, cap, cur, rfl, _, _, h1, h2, _, _⟩⟩ := ho5
          · exact ⟨none, 0, 0, rfl, Lib.hid h0.symm, by omega⟩
          · exact ⟨_, _, _, rfl, Lib.hid rfl, by unfold maxLen at h2; omega⟩
        subst he5
        clear ho5 hs5 hm5 hb5 kZ kS
        have hXs : X < 158310720 := (atE_stamp HAG.out HAT.out).2
        have HCN := Lib.hid (show (n9 : Int) = n5 + (if dec (meetsZ z X e.long f t) = true then 1 else 0) by rw [HN9.out, HN5.out]; exact HCNT.out)
        have kZ := HZ5.out.xz.cell
        have CU1 := Lib.hid (CU.out X w5 HZ5.out.bel)
        clear HCNT CB2 HN5
        by_cases hok : refOk z X
        · obtain ⟨U, hU⟩ : ∃ U, U = atZ z X := ⟨_, rfl⟩
          have hU0 : 0 ≤ U := by rw [hU]; exact hok.2.2.2.1
          have hU1 : U ≤ 158310720 := by rw [hU]; exact hok.2.2.2.2
          have HUV := Lib.hid (show ∀ k, refUV z X k = .agg #[.int .i64 U, .int .i64 k, .bool false] from fun k => by rw [refUV_t hok, hU])
          have CZ1 := Lib.hid (fun W hb => c_t (CZM.out W hb) hok.1)
          have HMT := Lib.hid (show meetsZ z X e.long f t ↔ U < t ∧ f < U + e.long from by
            unfold meetsZ; rw [← hU]; exact ⟨fun h => ⟨h.2.2.1, h.2.2.2⟩, fun h => ⟨hok.1, ⟨hU0, hU1⟩, h.1, h.2⟩⟩)
          have hvl : wrap64 (U + e.long) = U + e.long := by unfold wrap64; omega
          clear hU hok
          go_wp2_with fail
          (with_reducible refine CU1.out.mono ?_)
          rintro q w6 ⟨⟨kk, rfl⟩, hb6⟩
          rw [HUV.out kk]
          have HZ6 := Lib.hid ((HZ5.out.below hb6).below ((Below.refl _ _).alloc (Nat.le_refl _) (.cells #[.int .i64 U, .int .i64 kk, .bool false] 46)))
          have XU := Lib.hid (BxM.new w6 #[.int .i64 U, .int .i64 kk, .bool false] 46)
          clear kZ hb6
          have kZ := HZ6.out.xz.cell
          have kU := XU.out.cell
          go_wp2_with fail
          (with_reducible refine (CZ1.out _ HZ6.out.bel).mono ?_)
          rintro q w7 ⟨rfl, hb7⟩
          have HZ7 := Lib.hid (HZ6.out.below hb7)
          have XU7 := Lib.hid (XU.out.below hb7)
          clear kZ kU hb7
          have kS := HZ7.out.xs.cell
          have kE := HZ7.out.xe.cell
          have kU := XU7.out.cell
          by_cases c1 : U < t
          · have d1 : decide (U < t) = true := decide_eq_true c1
            by_cases c2 : f < U + e.long
            · have d2 : decide (f < U + e.long) = true := decide_eq_true c2
              have hcn : (n9 : Int) = (n5 : Int) + 1 := by have := HCN.out; rw [if_pos (dec_t (HMT.out.2 ⟨c1, c2⟩))] at this; exact this
              have f1 : ((n5 : Int) != (n9 : Int)) = true := by rw [bne_iff_ne]; omega
              have f2 : ((n5 : Int) == (n9 : Int)) = false := by rw [beq_eq_false_iff_ne]; omega
              have f3 : decide ((n5 : Int) < (n9 : Int)) = true := decide_eq_true (by omega)
              have f4 : decide (n5 < n9) = true := decide_eq_true (by omega)
              have f5 : (n5 == n9) = false := by rw [beq_eq_false_iff_ne]; omega
              have f6 : (n5 != n9) = true := by rw [bne_iff_ne]; omega
              have f9 : wrap64 ((n9 : Int) - 1) = (n9 : Int) - 1 := by unfold wrap64; omega
              have f7 : ((n5 : Int) != (n9 : Int) - 1) = false := by rw [hcn]; simp
              have f8 : ((n5 : Int) == (n9 : Int) - 1) = true := by rw [hcn]; simp
              clear hcn
              go_wp2_with fail
              go_roundw
              case measure => simp [intOf]; omega
              case rel => exact ⟨k + 1, rfl, by omega, by omega, HZ7⟩
            · have d2 : decide (f < U + e.long) = false := decide_eq_false c2
              have hcn : (n9 : Int) = (n5 : Int) := by have := HCN.out; rw [if_neg (by rw [dec_f (fun h => c2 (HMT.out.1 h).2)]; decide)] at this; omega
              have f1 : ((n5 : Int) != (n9 : Int)) = false := by rw [hcn]; simp
              have f2 : ((n5 : Int) == (n9 : Int)) = true := by rw [hcn]; simp
              have f3 : decide ((n5 : Int) < (n9 : Int)) = false := decide_eq_false (by omega)
              have f4 : decide (n5 < n9) = false := decide_eq_false (by omega)
              have f5 : (n5 == n9) = true := by have : n5 = n9 := by omega
                                                simp [this]
              have f6 : (n5 != n9) = false := by have : n5 = n9 := by omega
                                                 simp [this]
              clear hcn
              go_wp2_with fail
              go_roundw
              case measure => simp [intOf]; omega
              case rel => exact ⟨k + 1, rfl, by omega, by omega, HZ7⟩
          · have d1 : decide (U < t) = false := decide_eq_false c1
            have hcn : (n9 : Int) = (n5 : Int) := by have := HCN.out; rw [if_neg (by rw [dec_f (fun h => c1 (HMT.out.1 h).1)]; decide)] at this; omega
            have f1 : ((n5 : Int) != (n9 : Int)) = false := by rw [hcn]; simp
            have f2 : ((n5 : Int) == (n9 : Int)) = true := by rw [hcn]; simp
            have f3 : decide ((n5 : Int) < (n9 : Int)) = false := decide_eq_false (by omega)
            have f4 : decide (n5 < n9) = false := decide_eq_false (by omega)
            have f5 : (n5 == n9) = true := by have : n5 = n9 := by omega
                                              simp [this]
            have f6 : (n5 != n9) = false := by have : n5 = n9 := by omega
                                               simp [this]
            clear hcn
            go_wp2_with fail
            go_roundw
            case measure => simp [intOf]; omega
            case rel => exact ⟨k + 1, rfl, by omega, by omega, HZ7⟩
        · have HUV := Lib.hid (show ∀ k, refUV z X k = .agg #[.int .i64 0, .int .i64 0, .bool true] from fun k => refUV_f hok)
          have hcn : (n9 : Int) = (n5 : Int) := by
            have := HCN.out
            rw [if_neg (by rw [dec_f (fun h => hok ⟨h.1, by omega, by omega, h.2.1.1, h.2.1.2⟩)]; decide)] at this; omega
          clear hok
          have HCQ := Lib.hid hcn
          clear hcn
          go_wp2_with fail
          (with_reducible refine CU1.out.mono ?_)
          rintro q w6 ⟨⟨kk, rfl⟩, hb6⟩
          rw [HUV.out kk]
          have HZ7 := Lib.hid ((HZ5.out.below hb6).below ((Below.refl _ _).alloc (Nat.le_refl _) (.cells #[.int .i64 0, .int .i64 0, .bool true] 46)))
          have XU7 := Lib.hid (BxM.new w6 #[.int .i64 0, .int .i64 0, .bool true] 46)
          clear kZ hb6
          have kS := HZ7.out.xs.cell
          have kE := HZ7.out.xe.cell
          have kU := XU7.out.cell
          have hcn := HCQ.out
          have f1 : ((n5 : Int) != (n9 : Int)) = false := by rw [hcn]; simp
          have f2 : ((n5 : Int) == (n9 : Int)) = true := by rw [hcn]; simp
          have f3 : decide ((n5 : Int) < (n9 : Int)) = false := decide_eq_false (by omega)
          have f4 : decide (n5 < n9) = false := decide_eq_false (by omega)
          have f5 : (n5 == n9) = true := by have : n5 = n9 := by omega
                                            simp [this]
          have f6 : (n5 != n9) = false := by have : n5 = n9 := by omega
                                             simp [this]
          clear hcn
          go_wp2_with fail
          go_roundw
          case measure => simp [intOf]; omega
          case rel => exact ⟨k + 1, rfl, by omega, by omega, HZ7⟩
    · have dk : decide (k ≤ t / 1440) = false := decide_eq_false hk
      go_wp2_with (go_at_call 12; ((with_reducible refine (FX.out _).mono ?_)); rintro q w9 ⟨rfl, hb9⟩; have HZ9 := Lib.hid (HZk.out.below hb9); clear hb9)
      go_ret
      exact ⟨rfl, HZ9.out.bel⟩
end Go.Proofs.YtechgcjdigpglaaGreat
