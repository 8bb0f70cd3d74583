/- The law EventMembers, walked. No condition but that the arguments read. -/
import Derived.Test.YtechgcjdigpglaaGreatZE
import Derived.Deep.DeepCutAuto
import Derived.Deep.RegionHeld3
import Derived.Deep.Light
namespace Go.Proofs.YtechgcjdigpglaaGreat
open Go.RowKit Go.ChangeShapes Go.WideShapes Go.Deep
set_option linter.all false

set_option maxHeartbeats 40000000 in
set_option maxRecDepth 100000 in
theorem memb_law (cz : List Value) (z : ZoneD) (ce : List Value) (e : EventD) (f t : Int) (w : World) (hz : rZone w cz z) (h : rEvent w ce e) (wf : wfi .i64 f) (wt : wfi .i64 t) :
    Calls Tryz.prog 3 #[.agg cz.toArray, .agg ce.toArray, .agg #[.int .i64 f, .int .i64 t]] w fun r w' => r = .returned (.bool true) ∧ Below w.heap.size w w' := by
  have SE := Lib.hid h
  have SZ := Lib.hid hz
  obtain ⟨om, nm, cm, od, nd, cd, oy, ny, cy, op, np, cp, oe, ne, ce, ol, nl, cl, oc, nc, cc, rfl, SR, l1, l2, l3, R1, R2, R3, -, -⟩ := h.opn
  obtain ⟨tz, rfl, -, htz⟩ := hz
  obtain ⟨oz, nz, cz, rfl, lz, -, -, -⟩ := htz.open
  obtain ⟨A, hA⟩ : ∃ A, A = ([.int .i64 e.start, .int .i64 e.long, .bool e.world, .bool e.again, .int .i64 e.rule.freq, .int .i64 e.rule.interval, .int .i64 e.rule.count, .int .i64 e.rule.until_, .slice om nm cm, .slice od nd cd, .slice oy ny cy, .slice op np cp, .int .i64 e.rule.start, .slice oe ne ce, .slice ol nl cl, .slice oc nc cc] : List Value).toArray := ⟨_, rfl⟩
  have hA16 : A.size = 16 := by rw [hA]; rfl
  have HSZ := Lib.hid (show (Tryz.prog.info? 32).map (·.size) = some A.size by rw [hA16]; kernel_rfl)
  have LZ := Lib.hid lz
  have CG := Lib.hid (fun (W : World) (hb : Below w.heap.size w W) => greatE_any _ e W (SE.out.later hb))
  have CM := Lib.hid (fun (hg : ¬ greatE e) (W : World) (hb : Below w.heap.size w W) => refEMay_any _ e W (SE.out.later hb) (fewE_of hg))
  have CE := Lib.hid (fun (hg : ¬ greatE e) (W : World) (hb : Below w.heap.size w W) => mayE_any _ e W (SE.out.later hb) (fewE_of hg))
  have CB0 := Lib.hid (fun (hg : ¬ greatE e) (hn : nz ≤ 8) (W : World) (hb : Below w.heap.size w W) => members_any _ _ z e f t W (SZ.out.later hb) (SE.out.later hb) (fewE_of hg) (by rw [LZ.out]; omega))
  have CR0 := Lib.hid (fun (hg : ¬ greatE e) (hn : nz ≤ 8) (W : World) (hb : Below w.heap.size w W) => refMembers_any _ _ z e f t W (SZ.out.later hb) (SE.out.later hb) (fewE_of hg) (by rw [LZ.out]; omega))
  have FX := Lib.hid (fun W => fixed_any W)
  rw [← hA] at CG CM CE CB0 CR0 ⊢
  have HZ0 := Lib.hid (ZE.new #[.int .i64 z.base, .slice oz nz cz] A #[.int .i64 f, .int .i64 t] w)
  have kZ := HZ0.out.xz.cell
  have kS := HZ0.out.xs.cell
  obtain ⟨D, hD⟩ : ∃ D, D = wrap64 (t - f) := ⟨_, rfl⟩
  have hD1 : wrap64 (t - f) = D := hD.symm
  have hD2 : IntKind.i64.wrap (t - f) = D := by rw [hD, IntKind.wrap_i64]; unfold wrap64; omega
  clear SE SZ SR l1 l2 l3 R1 R2 R3 htz h hA hA16 lz hD wf wt
  by_cases h8 : 8 < nz
  · have d8 : (8 : Int) < (nz : Int) := by omega
    clear h8
    go_enter Tryz.func3, Tryz.ntmps3
    have HZP := HZ0
    go_wp2_with (go_at_call 12; ((with_reducible refine (FX.out _).mono ?_)); rintro q w9 ⟨rfl, hb9⟩; have HZ9 := Lib.hid (HZP.out.below hb9); clear hb9)
    go_ret
    exact ⟨rfl, HZ9.out.bel⟩
  have d8 : ¬ (8 : Int) < (nz : Int) := by omega
  by_cases hg : greatE e
  · have CG1 := Lib.hid (fun W hb => c_t (CG.out W hb) hg)
    clear CM CE CB0 CR0 hg h8
    go_enter Tryz.func3, Tryz.ntmps3
    go_wp2_with (first | (first | (refine wpList_ld ?_ 32 (.tmp 4) rfl (w.heap.size + 1) rfl 32 A (0, 0) _ HZ0.out.xe.heap Tryz.underlying32 rfl HSZ.out ?_; focus kernel_rfl)) | (go_at_call 11; ((with_reducible refine (CG1.out _ HZ0.out.bel).mono ?_)); rintro q w1 ⟨rfl, hb1⟩; have HZ1 := Lib.hid (HZ0.out.below hb1); clear kZ kS; have kZ := HZ1.out.xz.cell; have kS := HZ1.out.xs.cell; clear hb1) | (go_at_call 12; ((with_reducible refine (FX.out _).mono ?_)); rintro q w9 ⟨rfl, hb9⟩; have HZ9 := Lib.hid (HZ1.out.below hb9); clear hb9))
    go_ret
    exact ⟨rfl, HZ9.out.bel⟩
  · have CG1 := Lib.hid (fun W hb => c_f (CG.out W hb) hg)
    have CB := Lib.hid (fun W hb => CB0.out hg (by omega) W hb)
    have CR := Lib.hid (fun W hb => CR0.out hg (by omega) W hb)
    by_cases hm : mayE e
    · have CM1 := Lib.hid (fun W hb => c_t (CM.out hg W hb) hm)
      have CE1 := Lib.hid (fun W hb => c_t (CE.out hg W hb) hm)
      have HMF := Lib.hid (show false = true → ¬ mayE e from fun h => by cases h)
      clear CM CE CB0 CR0 CG hg h8 hm
      go_enter Tryz.func3, Tryz.ntmps3
      go_upto_region 3 with (first | (first | (refine wpList_ld ?_ 32 (.tmp 4) rfl (w.heap.size + 1) rfl 32 A (0, 0) _ HZ0.out.xe.heap Tryz.underlying32 rfl HSZ.out ?_; focus kernel_rfl)) | (go_at_call 11; ((with_reducible refine (CG1.out _ HZ0.out.bel).mono ?_)); rintro q w1 ⟨rfl, hb1⟩; have HZ1 := Lib.hid (HZ0.out.below hb1); clear kZ kS; have kZ := HZ1.out.xz.cell; have kS := HZ1.out.xs.cell; clear hb1))
      refine wp_region_held_drew (S := (fun W' => (∀ j, W'.cell? ⟨w.heap.size, j, none⟩ = (#[.int .i64 z.base, .slice oz nz cz] : Array Value)[j]?) ∧ BxM (w.heap.size + 1) A 32 W' ∧ (∀ j, W'.cell? ⟨w.heap.size + 2, j, none⟩ = (#[.int .i64 f, .int .i64 t] : Array Value)[j]?))) (by kernel_rfl) (And.intro HZ1.out.drew.xz.cell (And.intro HZ1.out.drew.xe HZ1.out.drew.xs.cell)) (fun hHeld => ?_)
      simp only [List.size_toArray, List.length_cons, List.length_nil, Nat.reduceAdd, Array.replicate_succ, Array.replicate_zero, List.push_toArray, List.nil_append, List.cons_append]
      refine wpAnyH_take (i := 0) (oi := ⟨some 16, _, _, _, _, _⟩) (v := .agg A) rfl (by kernel_rfl) (by kernel_rfl) (by kernel_rfl) (fun _ _ _ h => h) (Or.inl ⟨by kernel_rfl, ?_⟩) (by assumption) ?_
      · intro w hSw; exact exec_ld _ 32 (.tmp 4) rfl _ _ rfl 32 A (0, 0) _ hSw.2.1.heap Tryz.underlying32 rfl HSZ.out
      try simp only [Act.put, List.setIfInBounds_toArray, List.set_cons_zero, List.set_cons_succ]
      refine wpAnyH_take (i := 2) (oi := ⟨some 18, _, _, _, _, _⟩) (v := .agg A) rfl (by kernel_rfl) (by kernel_rfl) (by kernel_rfl) (fun _ _ _ h => h) (Or.inl ⟨by kernel_rfl, ?_⟩) (by assumption) ?_
      · intro w hSw; exact exec_ld _ 32 (.tmp 4) rfl _ _ rfl 32 A (0, 0) _ hSw.2.1.heap Tryz.underlying32 rfl HSZ.out
      try simp only [Act.put, List.setIfInBounds_toArray, List.set_cons_zero, List.set_cons_succ]
      refine wpAnyH_ready (rs := [1]) (by kernel_rfl) (by simp) ?_
      refine AllReadyH.cons rfl (fun K hK => ?_) AllReadyH.nil
      have HK := Lib.hid hK
      go_simp
      (with_reducible refine (CE1.out _ HZ1.out.drew.bel).mono ?_); rintro q w2 ⟨rfl, hb2⟩; have HZd := Lib.hid HZ1.out.drew; have HZ2 := Lib.hid (HZd.out.below hb2); have hS2 := (show (fun W' => (∀ j, W'.cell? ⟨w.heap.size, j, none⟩ = (#[.int .i64 z.base, .slice oz nz cz] : Array Value)[j]?) ∧ BxM (w.heap.size + 1) A 32 W' ∧ (∀ j, W'.cell? ⟨w.heap.size + 2, j, none⟩ = (#[.int .i64 f, .int .i64 t] : Array Value)[j]?)) w2 from (And.intro HZ2.out.xz.cell (And.intro HZ2.out.xe HZ2.out.xs.cell))); clear hb2
      go_simp
      refine HK.out _ _ hS2 (fun hHeld => ?_)
      clear HK hK K
      try simp only [Act.put, List.setIfInBounds_toArray, List.set_cons_zero, List.set_cons_succ]
      refine wpAnyH_ready (rs := [3]) (by kernel_rfl) (by simp) ?_
      refine AllReadyH.cons rfl (fun K hK => ?_) AllReadyH.nil
      have HK := Lib.hid hK
      go_simp
      (with_reducible refine (CM1.out _ HZ2.out.bel).mono ?_); rintro q w3 ⟨rfl, hb3⟩; have HZ3 := Lib.hid (HZ2.out.below hb3); have hS3 := (show (fun W' => (∀ j, W'.cell? ⟨w.heap.size, j, none⟩ = (#[.int .i64 z.base, .slice oz nz cz] : Array Value)[j]?) ∧ BxM (w.heap.size + 1) A 32 W' ∧ (∀ j, W'.cell? ⟨w.heap.size + 2, j, none⟩ = (#[.int .i64 f, .int .i64 t] : Array Value)[j]?)) w3 from (And.intro HZ3.out.xz.cell (And.intro HZ3.out.xe HZ3.out.xs.cell))); clear hb3
      go_simp
      refine HK.out _ _ hS3 (fun hHeld => ?_)
      clear HK hK K
      try simp only [Act.put, List.setIfInBounds_toArray, List.set_cons_zero, List.set_cons_succ]
      refine wpAnyH_take (i := 4) (oi := ⟨some 20, _, _, _, _, _⟩) (v := ?_) rfl (by kernel_rfl) (by kernel_rfl) (by kernel_rfl) (fun _ _ _ h => h) (Or.inl ⟨by kernel_rfl, ?_⟩) (by assumption) ?_
      rotate_left
      · intro w hSw; (try dsimp only at hSw); go_simp; try with_reducible rfl
      try simp only [Act.put, List.setIfInBounds_toArray, List.set_cons_zero, List.set_cons_succ]
      refine wpAnyH_done (by kernel_rfl) ?_ _
      skip
      clear kZ kS
      have kZ := HZ3.out.xz.cell
      have kS := HZ3.out.xs.cell
      go_upto_region 5 with fail
      go_cut [55] (fun v W => (∃ b, v = .bool b ∧ Hid (b = false → mayE e → f < t → -1073741824 ≤ f ∧ t ≤ 1073741824)) ∧ Hid (ZE #[.int .i64 z.base, .slice oz nz cz] A #[.int .i64 f, .int .i64 t] w W))
      case first =>
        by_cases c1 : f < t
        · have d1 : decide (f < t) = true := decide_eq_true c1
          refine wp_region_lit ?_
          iterate 18 go_step
          refine wpList_ld ?_ 32 (.tmp 4) rfl (w.heap.size + 1) rfl 32 A (0, 0) _ HZ3.out.xe.heap Tryz.underlying32 rfl HSZ.out ?_
          · simp [Region.wanted, yielded]
          go_wp2_with fail
          (with_reducible refine (CM1.out _ HZ3.out.bel).mono ?_)
          rintro q w4 ⟨rfl, hb4⟩
          have HZ4 := Lib.hid (HZ3.out.below hb4)
          clear kZ kS hb4
          have kS := HZ4.out.xs.cell
          by_cases c2 : f < -1073741824
          · have d2 : decide (f < -1073741824) = true := decide_eq_true c2
            go_wp2_with fail
            go_meet
            exact ⟨⟨_, rfl, Lib.hid (fun h => by cases h)⟩, HZ4⟩
          · have d2 : decide (f < -1073741824) = false := decide_eq_false c2
            by_cases c3 : 1073741824 < t
            · have d3 : decide (1073741824 < t) = true := decide_eq_true c3
              go_wp2_with fail
              go_meet
              exact ⟨⟨_, rfl, Lib.hid (fun h => by cases h)⟩, HZ4⟩
            · have d3 : decide (1073741824 < t) = false := decide_eq_false c3
              by_cases c4 : 144000 < D
              · have d4 : decide (144000 < D) = true := decide_eq_true c4
                by_cases c5 : D ≤ 528480
                · have d5 : decide (D ≤ 528480) = true := decide_eq_true c5
                  go_wp2_with fail
                  go_meet
                  exact ⟨⟨_, rfl, Lib.hid (fun h => by cases h)⟩, HZ4⟩
                · have d5 : decide (D ≤ 528480) = false := decide_eq_false c5
                  have HV := Lib.hid (show mayE e → f < t → -1073741824 ≤ f ∧ t ≤ 1073741824 from fun _ _ => by omega)
                  go_wp2_with fail
                  go_meet
                  exact ⟨⟨_, rfl, Lib.hid (fun _ => HV.out)⟩, HZ4⟩
              · have d4 : decide (144000 < D) = false := decide_eq_false c4
                have HV := Lib.hid (show mayE e → f < t → -1073741824 ≤ f ∧ t ≤ 1073741824 from fun _ _ => by omega)
                go_wp2_with fail
                go_meet
                exact ⟨⟨_, rfl, Lib.hid (fun _ => HV.out)⟩, HZ4⟩
        · have d1 : decide (f < t) = false := decide_eq_false c1
          have HV := Lib.hid (show mayE e → f < t → -1073741824 ≤ f ∧ t ≤ 1073741824 from fun _ h => absurd h c1)
          clear c1
          go_wp2_with fail
          go_meet
          exact ⟨⟨_, rfl, Lib.hid (fun _ => HV.out)⟩, HZ3⟩
      case rest =>
      obtain ⟨⟨b, rfl, HWb⟩, HZP⟩ := hcut
      clear HZ3 kZ kS hS2 hS3
      obtain ⟨wp, rfl⟩ : ∃ x, x = wc := ⟨_, rfl⟩
      cases b with
      | true =>
        go_wp2_with (go_at_call 12; ((with_reducible refine (FX.out _).mono ?_)); rintro q w9 ⟨rfl, hb9⟩; have HZ9 := Lib.hid (HZP.out.below hb9); clear hb9)
        go_ret
        exact ⟨rfl, HZ9.out.bel⟩
      | false =>
      have HW := Lib.hid (HWb.out rfl)
      go_upto_region 7 with fail
      have HZe := Lib.hid HZP.out.drew
      refine wp_region_held_drew (S := (fun W' => (∀ j, W'.cell? ⟨w.heap.size, j, none⟩ = (#[.int .i64 z.base, .slice oz nz cz] : Array Value)[j]?) ∧ BxM (w.heap.size + 1) A 32 W' ∧ (∀ j, W'.cell? ⟨w.heap.size + 2, j, none⟩ = (#[.int .i64 f, .int .i64 t] : Array Value)[j]?))) (by kernel_rfl) (And.intro HZe.out.xz.cell (And.intro HZe.out.xe HZe.out.xs.cell)) (fun hHeld => ?_)
      simp only [List.size_toArray, List.length_cons, List.length_nil, Nat.reduceAdd, Array.replicate_succ, Array.replicate_zero, List.push_toArray, List.nil_append, List.cons_append]
      refine wpAnyH_ready (rs := [0]) (by kernel_rfl) (by simp) ?_
      refine AllReadyH.cons rfl (fun K hK => ?_) AllReadyH.nil
      have HK := Lib.hid hK
      go_simp
      (with_reducible refine (FX.out _).mono ?_); rintro q w5 ⟨rfl, hb5⟩; have HZ5 := Lib.hid (HZe.out.below hb5); have hS5 := (show (fun W' => (∀ j, W'.cell? ⟨w.heap.size, j, none⟩ = (#[.int .i64 z.base, .slice oz nz cz] : Array Value)[j]?) ∧ BxM (w.heap.size + 1) A 32 W' ∧ (∀ j, W'.cell? ⟨w.heap.size + 2, j, none⟩ = (#[.int .i64 f, .int .i64 t] : Array Value)[j]?)) w5 from (And.intro HZ5.out.xz.cell (And.intro HZ5.out.xe HZ5.out.xs.cell))); clear hb5
      go_simp
      refine HK.out _ _ hS5 (fun hHeld => ?_)
      clear HK hK K
      try simp only [Act.put, List.setIfInBounds_toArray, List.set_cons_zero, List.set_cons_succ]
      refine wpAnyH_take (i := 1) (oi := ⟨some 58, _, _, _, _, _⟩) (v := ?_) rfl (by kernel_rfl) (by kernel_rfl) (by kernel_rfl) (fun _ _ _ h => h) (Or.inl ⟨by kernel_rfl, ?_⟩) (by assumption) ?_
      rotate_left
      · intro w hSw; (try dsimp only at hSw); go_simp; try with_reducible rfl
      try simp only [Act.put, List.setIfInBounds_toArray, List.set_cons_zero, List.set_cons_succ]
      refine wpAnyH_take (i := 2) (oi := ⟨some 59, _, _, _, _, _⟩) (v := ?_) rfl (by kernel_rfl) (by kernel_rfl) (by kernel_rfl) (fun _ _ _ h => h) (Or.inl ⟨by kernel_rfl, ?_⟩) (by assumption) ?_
      rotate_left
      · intro w hSw; (try dsimp only at hSw); go_simp; try with_reducible rfl
      try simp only [Act.put, List.setIfInBounds_toArray, List.set_cons_zero, List.set_cons_succ]
      refine wpAnyH_take (i := 3) (oi := ⟨some 60, _, _, _, _, _⟩) (v := .agg A) rfl (by kernel_rfl) (by kernel_rfl) (by kernel_rfl) (fun _ _ _ h => h) (Or.inl ⟨by kernel_rfl, ?_⟩) (by assumption) ?_
      · intro w hSw; exact exec_ld _ 32 (.tmp 4) rfl _ _ rfl 32 A (0, 0) _ hSw.2.1.heap Tryz.underlying32 rfl HSZ.out
      try simp only [Act.put, List.setIfInBounds_toArray, List.set_cons_zero, List.set_cons_succ]
      refine wpAnyH_take (i := 4) (oi := ⟨some 61, _, _, _, _, _⟩) (v := ?_) rfl (by kernel_rfl) (by kernel_rfl) (by kernel_rfl) (fun _ _ _ h => h) (Or.inl ⟨by kernel_rfl, ?_⟩) (by assumption) ?_
      rotate_left
      · intro w hSw; (try dsimp only at hSw); go_simp; try with_reducible rfl
      try simp only [Act.put, List.setIfInBounds_toArray, List.set_cons_zero, List.set_cons_succ]
      refine wpAnyH_take (i := 6) (oi := ⟨some 63, _, _, _, _, _⟩) (v := ?_) rfl (by kernel_rfl) (by kernel_rfl) (by kernel_rfl) (fun _ _ _ h => h) (Or.inl ⟨by kernel_rfl, ?_⟩) (by assumption) ?_
      rotate_left
      · intro w hSw; (try dsimp only at hSw); go_simp; try with_reducible rfl
      try simp only [Act.put, List.setIfInBounds_toArray, List.set_cons_zero, List.set_cons_succ]
      refine wpAnyH_take (i := 7) (oi := ⟨some 64, _, _, _, _, _⟩) (v := .agg A) rfl (by kernel_rfl) (by kernel_rfl) (by kernel_rfl) (fun _ _ _ h => h) (Or.inl ⟨by kernel_rfl, ?_⟩) (by assumption) ?_
      · intro w hSw; exact exec_ld _ 32 (.tmp 4) rfl _ _ rfl 32 A (0, 0) _ hSw.2.1.heap Tryz.underlying32 rfl HSZ.out
      try simp only [Act.put, List.setIfInBounds_toArray, List.set_cons_zero, List.set_cons_succ]
      refine wpAnyH_take (i := 8) (oi := ⟨some 65, _, _, _, _, _⟩) (v := ?_) rfl (by kernel_rfl) (by kernel_rfl) (by kernel_rfl) (fun _ _ _ h => h) (Or.inl ⟨by kernel_rfl, ?_⟩) (by assumption) ?_
      rotate_left
      · intro w hSw; (try dsimp only at hSw); go_simp; try with_reducible rfl
      try simp only [Act.put, List.setIfInBounds_toArray, List.set_cons_zero, List.set_cons_succ]
      refine wpAnyH_ready (rs := [5]) (by kernel_rfl) (by simp) ?_
      refine AllReadyH.cons rfl (fun K hK => ?_) AllReadyH.nil
      have HK := Lib.hid hK
      go_simp
      (with_reducible refine (CB.out _ HZ5.out.bel).mono ?_); rintro q w6 ⟨v6, L6, rfl, ho6, hs6, hm6, hb6⟩; have HZ6 := Lib.hid (HZ5.out.below hb6); have hS6 := (show (fun W' => (∀ j, W'.cell? ⟨w.heap.size, j, none⟩ = (#[.int .i64 z.base, .slice oz nz cz] : Array Value)[j]?) ∧ BxM (w.heap.size + 1) A 32 W' ∧ (∀ j, W'.cell? ⟨w.heap.size + 2, j, none⟩ = (#[.int .i64 f, .int .i64 t] : Array Value)[j]?)) w6 from (And.intro HZ6.out.xz.cell (And.intro HZ6.out.xe HZ6.out.xs.cell))); have HQ6 := Lib.hid (And.intro ho6 (And.intro hs6 hm6)); clear ho6 hs6 hm6 hb6
      go_simp
      refine HK.out _ _ hS6 (fun hHeld => ?_)
      clear HK hK K
      try simp only [Act.put, List.setIfInBounds_toArray, List.set_cons_zero, List.set_cons_succ]
      refine wpAnyH_ready (rs := [9]) (by kernel_rfl) (by simp) ?_
      refine AllReadyH.cons rfl (fun K hK => ?_) AllReadyH.nil
      have HK := Lib.hid hK
      go_simp
      (with_reducible refine (CR.out _ HZ6.out.bel).mono ?_); rintro q w7 ⟨v7, L7, rfl, ho7, hs7, hm7, hb7⟩; have HZ7 := Lib.hid (HZ6.out.below hb7); have hS7 := (show (fun W' => (∀ j, W'.cell? ⟨w.heap.size, j, none⟩ = (#[.int .i64 z.base, .slice oz nz cz] : Array Value)[j]?) ∧ BxM (w.heap.size + 1) A 32 W' ∧ (∀ j, W'.cell? ⟨w.heap.size + 2, j, none⟩ = (#[.int .i64 f, .int .i64 t] : Array Value)[j]?)) w7 from (And.intro HZ7.out.xz.cell (And.intro HZ7.out.xe HZ7.out.xs.cell))); have HLL := Lib.hid (members_ref HQ6.out.2.2 HQ6.out.2.1 hm7 hs7 HW.out); have CS := Lib.hid (c_t (sameSp_any v6 v7 L6 L7 w7 (own_sp (own_laterI HQ6.out.1 hb7)) (own_sp ho7)) HLL.out); clear ho7 hs7 hm7 hb7
      go_simp
      refine HK.out _ _ hS7 (fun hHeld => ?_)
      clear HK hK K
      try simp only [Act.put, List.setIfInBounds_toArray, List.set_cons_zero, List.set_cons_succ]
      refine wpAnyH_ready (rs := [10]) (by kernel_rfl) (by simp) ?_
      refine AllReadyH.cons rfl (fun K hK => ?_) AllReadyH.nil
      have HK := Lib.hid hK
      go_simp
      (with_reducible refine CS.out.mono ?_); rintro q w8 ⟨rfl, m8, hw8⟩; have hb8 := (show Below w7.heap.size w7 w8 from hw8 ▸ below_drewN (Below.refl _ _) m8); have HZ8 := Lib.hid (HZ7.out.below hb8); have hS8 := (show (fun W' => (∀ j, W'.cell? ⟨w.heap.size, j, none⟩ = (#[.int .i64 z.base, .slice oz nz cz] : Array Value)[j]?) ∧ BxM (w.heap.size + 1) A 32 W' ∧ (∀ j, W'.cell? ⟨w.heap.size + 2, j, none⟩ = (#[.int .i64 f, .int .i64 t] : Array Value)[j]?)) w8 from (And.intro HZ8.out.xz.cell (And.intro HZ8.out.xe HZ8.out.xs.cell))); clear hw8 hb8
      go_simp
      refine HK.out _ _ hS8 (fun hHeld => ?_)
      clear HK hK K
      try simp only [Act.put, List.setIfInBounds_toArray, List.set_cons_zero, List.set_cons_succ]
      refine wpAnyH_take (i := 11) (oi := ⟨some 68, _, _, _, _, _⟩) (v := ?_) rfl (by kernel_rfl) (by kernel_rfl) (by kernel_rfl) (fun _ _ _ h => h) (Or.inl ⟨by kernel_rfl, ?_⟩) (by assumption) ?_
      rotate_left
      · intro w hSw; (try dsimp only at hSw); go_simp; try with_reducible rfl
      try simp only [Act.put, List.setIfInBounds_toArray, List.set_cons_zero, List.set_cons_succ]
      refine wpAnyH_take (i := 12) (oi := ⟨some 6, _, _, _, _, _⟩) (v := ?_) rfl (by kernel_rfl) (by kernel_rfl) (by kernel_rfl) (fun _ _ _ h => h) (Or.inl ⟨by kernel_rfl, ?_⟩) (by assumption) ?_
      rotate_left
      · intro w hSw; (try dsimp only at hSw); go_simp; try with_reducible rfl
      try simp only [Act.put, List.setIfInBounds_toArray, List.set_cons_zero, List.set_cons_succ]
      refine wpAnyH_done (by kernel_rfl) ?_ _
      skip
      go_wp2_with fail
      go_ret
      exact ⟨rfl, HZ8.out.bel⟩
    · have CM1 := Lib.hid (fun W hb => c_f (CM.out hg W hb) hm)
      have CE1 := Lib.hid (fun W hb => c_f (CE.out hg W hb) hm)
      have HMF := Lib.hid (show true = true → ¬ mayE e from fun _ => hm)
      clear CM CE CB0 CR0 CG hg h8 hm
      go_enter Tryz.func3, Tryz.ntmps3
      go_upto_region 3 with (first | (first | (refine wpList_ld ?_ 32 (.tmp 4) rfl (w.heap.size + 1) rfl 32 A (0, 0) _ HZ0.out.xe.heap Tryz.underlying32 rfl HSZ.out ?_; focus kernel_rfl)) | (go_at_call 11; ((with_reducible refine (CG1.out _ HZ0.out.bel).mono ?_)); rintro q w1 ⟨rfl, hb1⟩; have HZ1 := Lib.hid (HZ0.out.below hb1); clear kZ kS; have kZ := HZ1.out.xz.cell; have kS := HZ1.out.xs.cell; clear hb1))
      refine wp_region_held_drew (S := (fun W' => (∀ j, W'.cell? ⟨w.heap.size, j, none⟩ = (#[.int .i64 z.base, .slice oz nz cz] : Array Value)[j]?) ∧ BxM (w.heap.size + 1) A 32 W' ∧ (∀ j, W'.cell? ⟨w.heap.size + 2, j, none⟩ = (#[.int .i64 f, .int .i64 t] : Array Value)[j]?))) (by kernel_rfl) (And.intro HZ1.out.drew.xz.cell (And.intro HZ1.out.drew.xe HZ1.out.drew.xs.cell)) (fun hHeld => ?_)
      simp only [List.size_toArray, List.length_cons, List.length_nil, Nat.reduceAdd, Array.replicate_succ, Array.replicate_zero, List.push_toArray, List.nil_append, List.cons_append]
      refine wpAnyH_take (i := 0) (oi := ⟨some 16, _, _, _, _, _⟩) (v := .agg A) rfl (by kernel_rfl) (by kernel_rfl) (by kernel_rfl) (fun _ _ _ h => h) (Or.inl ⟨by kernel_rfl, ?_⟩) (by assumption) ?_
      · intro w hSw; exact exec_ld _ 32 (.tmp 4) rfl _ _ rfl 32 A (0, 0) _ hSw.2.1.heap Tryz.underlying32 rfl HSZ.out
      try simp only [Act.put, List.setIfInBounds_toArray, List.set_cons_zero, List.set_cons_succ]
      refine wpAnyH_take (i := 2) (oi := ⟨some 18, _, _, _, _, _⟩) (v := .agg A) rfl (by kernel_rfl) (by kernel_rfl) (by kernel_rfl) (fun _ _ _ h => h) (Or.inl ⟨by kernel_rfl, ?_⟩) (by assumption) ?_
      · intro w hSw; exact exec_ld _ 32 (.tmp 4) rfl _ _ rfl 32 A (0, 0) _ hSw.2.1.heap Tryz.underlying32 rfl HSZ.out
      try simp only [Act.put, List.setIfInBounds_toArray, List.set_cons_zero, List.set_cons_succ]
      refine wpAnyH_ready (rs := [1]) (by kernel_rfl) (by simp) ?_
      refine AllReadyH.cons rfl (fun K hK => ?_) AllReadyH.nil
      have HK := Lib.hid hK
      go_simp
      (with_reducible refine (CE1.out _ HZ1.out.drew.bel).mono ?_); rintro q w2 ⟨rfl, hb2⟩; have HZd := Lib.hid HZ1.out.drew; have HZ2 := Lib.hid (HZd.out.below hb2); have hS2 := (show (fun W' => (∀ j, W'.cell? ⟨w.heap.size, j, none⟩ = (#[.int .i64 z.base, .slice oz nz cz] : Array Value)[j]?) ∧ BxM (w.heap.size + 1) A 32 W' ∧ (∀ j, W'.cell? ⟨w.heap.size + 2, j, none⟩ = (#[.int .i64 f, .int .i64 t] : Array Value)[j]?)) w2 from (And.intro HZ2.out.xz.cell (And.intro HZ2.out.xe HZ2.out.xs.cell))); clear hb2
      go_simp
      refine HK.out _ _ hS2 (fun hHeld => ?_)
      clear HK hK K
      try simp only [Act.put, List.setIfInBounds_toArray, List.set_cons_zero, List.set_cons_succ]
      refine wpAnyH_ready (rs := [3]) (by kernel_rfl) (by simp) ?_
      refine AllReadyH.cons rfl (fun K hK => ?_) AllReadyH.nil
      have HK := Lib.hid hK
      go_simp
      (with_reducible refine (CM1.out _ HZ2.out.bel).mono ?_); rintro q w3 ⟨rfl, hb3⟩; have HZ3 := Lib.hid (HZ2.out.below hb3); have hS3 := (show (fun W' => (∀ j, W'.cell? ⟨w.heap.size, j, none⟩ = (#[.int .i64 z.base, .slice oz nz cz] : Array Value)[j]?) ∧ BxM (w.heap.size + 1) A 32 W' ∧ (∀ j, W'.cell? ⟨w.heap.size + 2, j, none⟩ = (#[.int .i64 f, .int .i64 t] : Array Value)[j]?)) w3 from (And.intro HZ3.out.xz.cell (And.intro HZ3.out.xe HZ3.out.xs.cell))); clear hb3
      go_simp
      refine HK.out _ _ hS3 (fun hHeld => ?_)
      clear HK hK K
      try simp only [Act.put, List.setIfInBounds_toArray, List.set_cons_zero, List.set_cons_succ]
      refine wpAnyH_take (i := 4) (oi := ⟨some 20, _, _, _, _, _⟩) (v := ?_) rfl (by kernel_rfl) (by kernel_rfl) (by kernel_rfl) (fun _ _ _ h => h) (Or.inl ⟨by kernel_rfl, ?_⟩) (by assumption) ?_
      rotate_left
      · intro w hSw; (try dsimp only at hSw); go_simp; try with_reducible rfl
      try simp only [Act.put, List.setIfInBounds_toArray, List.set_cons_zero, List.set_cons_succ]
      refine wpAnyH_done (by kernel_rfl) ?_ _
      skip
      clear kZ kS
      have kZ := HZ3.out.xz.cell
      have kS := HZ3.out.xs.cell
      go_upto_region 5 with fail
      go_cut [55] (fun v W => (∃ b, v = .bool b ∧ Hid (b = false → mayE e → f < t → -1073741824 ≤ f ∧ t ≤ 1073741824)) ∧ Hid (ZE #[.int .i64 z.base, .slice oz nz cz] A #[.int .i64 f, .int .i64 t] w W))
      case first =>
        by_cases c1 : f < t
        · have d1 : decide (f < t) = true := decide_eq_true c1
          refine wp_region_lit ?_
          iterate 18 go_step
          refine wpList_ld ?_ 32 (.tmp 4) rfl (w.heap.size + 1) rfl 32 A (0, 0) _ HZ3.out.xe.heap Tryz.underlying32 rfl HSZ.out ?_
          · simp [Region.wanted, yielded]
          go_wp2_with fail
          (with_reducible refine (CM1.out _ HZ3.out.bel).mono ?_)
          rintro q w4 ⟨rfl, hb4⟩
          have HZ4 := Lib.hid (HZ3.out.below hb4)
          clear kZ kS hb4
          have kS := HZ4.out.xs.cell
          have HV := Lib.hid (show mayE e → f < t → -1073741824 ≤ f ∧ t ≤ 1073741824 from fun hm => absurd hm (HMF.out (by trivial)))
          go_wp2_with fail
          go_meet
          exact ⟨⟨_, rfl, Lib.hid (fun _ => HV.out)⟩, HZ4⟩
        · have d1 : decide (f < t) = false := decide_eq_false c1
          have HV := Lib.hid (show mayE e → f < t → -1073741824 ≤ f ∧ t ≤ 1073741824 from fun _ h => absurd h c1)
          clear c1
          go_wp2_with fail
          go_meet
          exact ⟨⟨_, rfl, Lib.hid (fun _ => HV.out)⟩, HZ3⟩
      case rest =>
      obtain ⟨⟨b, rfl, HWb⟩, HZP⟩ := hcut
      clear HZ3 kZ kS hS2 hS3
      obtain ⟨wp, rfl⟩ : ∃ x, x = wc := ⟨_, rfl⟩
      cases b with
      | true =>
        go_wp2_with (go_at_call 12; ((with_reducible refine (FX.out _).mono ?_)); rintro q w9 ⟨rfl, hb9⟩; have HZ9 := Lib.hid (HZP.out.below hb9); clear hb9)
        go_ret
        exact ⟨rfl, HZ9.out.bel⟩
      | false =>
      have HW := Lib.hid (HWb.out rfl)
      go_upto_region 7 with fail
      have HZe := Lib.hid HZP.out.drew
      refine wp_region_held_drew (S := (fun W' => (∀ j, W'.cell? ⟨w.heap.size, j, none⟩ = (#[.int .i64 z.base, .slice oz nz cz] : Array Value)[j]?) ∧ BxM (w.heap.size + 1) A 32 W' ∧ (∀ j, W'.cell? ⟨w.heap.size + 2, j, none⟩ = (#[.int .i64 f, .int .i64 t] : Array Value)[j]?))) (by kernel_rfl) (And.intro HZe.out.xz.cell (And.intro HZe.out.xe HZe.out.xs.cell)) (fun hHeld => ?_)
      simp only [List.size_toArray, List.length_cons, List.length_nil, Nat.reduceAdd, Array.replicate_succ, Array.replicate_zero, List.push_toArray, List.nil_append, List.cons_append]
      refine wpAnyH_ready (rs := [0]) (by kernel_rfl) (by simp) ?_
      refine AllReadyH.cons rfl (fun K hK => ?_) AllReadyH.nil
      have HK := Lib.hid hK
      go_simp
      (with_reducible refine (FX.out _).mono ?_); rintro q w5 ⟨rfl, hb5⟩; have HZ5 := Lib.hid (HZe.out.below hb5); have hS5 := (show (fun W' => (∀ j, W'.cell? ⟨w.heap.size, j, none⟩ = (#[.int .i64 z.base, .slice oz nz cz] : Array Value)[j]?) ∧ BxM (w.heap.size + 1) A 32 W' ∧ (∀ j, W'.cell? ⟨w.heap.size + 2, j, none⟩ = (#[.int .i64 f, .int .i64 t] : Array Value)[j]?)) w5 from (And.intro HZ5.out.xz.cell (And.intro HZ5.out.xe HZ5.out.xs.cell))); clear hb5
      go_simp
      refine HK.out _ _ hS5 (fun hHeld => ?_)
      clear HK hK K
      try simp only [Act.put, List.setIfInBounds_toArray, List.set_cons_zero, List.set_cons_succ]
      refine wpAnyH_take (i := 1) (oi := ⟨some 58, _, _, _, _, _⟩) (v := ?_) rfl (by kernel_rfl) (by kernel_rfl) (by kernel_rfl) (fun _ _ _ h => h) (Or.inl ⟨by kernel_rfl, ?_⟩) (by assumption) ?_
      rotate_left
      · intro w hSw; (try dsimp only at hSw); go_simp; try with_reducible rfl
      try simp only [Act.put, List.setIfInBounds_toArray, List.set_cons_zero, List.set_cons_succ]
      refine wpAnyH_take (i := 2) (oi := ⟨some 59, _, _, _, _, _⟩) (v := ?_) rfl (by kernel_rfl) (by kernel_rfl) (by kernel_rfl) (fun _ _ _ h => h) (Or.inl ⟨by kernel_rfl, ?_⟩) (by assumption) ?_
      rotate_left
      · intro w hSw; (try dsimp only at hSw); go_simp; try with_reducible rfl
      try simp only [Act.put, List.setIfInBounds_toArray, List.set_cons_zero, List.set_cons_succ]
      refine wpAnyH_take (i := 3) (oi := ⟨some 60, _, _, _, _, _⟩) (v := .agg A) rfl (by kernel_rfl) (by kernel_rfl) (by kernel_rfl) (fun _ _ _ h => h) (Or.inl ⟨by kernel_rfl, ?_⟩) (by assumption) ?_
      · intro w hSw; exact exec_ld _ 32 (.tmp 4) rfl _ _ rfl 32 A (0, 0) _ hSw.2.1.heap Tryz.underlying32 rfl HSZ.out
      try simp only [Act.put, List.setIfInBounds_toArray, List.set_cons_zero, List.set_cons_succ]
      refine wpAnyH_take (i := 4) (oi := ⟨some 61, _, _, _, _, _⟩) (v := ?_) rfl (by kernel_rfl) (by kernel_rfl) (by kernel_rfl) (fun _ _ _ h => h) (Or.inl ⟨by kernel_rfl, ?_⟩) (by assumption) ?_
      rotate_left
      · intro w hSw; (try dsimp only at hSw); go_simp; try with_reducible rfl
      try simp only [Act.put, List.setIfInBounds_toArray, List.set_cons_zero, List.set_cons_succ]
      refine wpAnyH_take (i := 6) (oi := ⟨some 63, _, _, _, _, _⟩) (v := ?_) rfl (by kernel_rfl) (by kernel_rfl) (by kernel_rfl) (fun _ _ _ h => h) (Or.inl ⟨by kernel_rfl, ?_⟩) (by assumption) ?_
      rotate_left
      · intro w hSw; (try dsimp only at hSw); go_simp; try with_reducible rfl
      try simp only [Act.put, List.setIfInBounds_toArray, List.set_cons_zero, List.set_cons_succ]
      refine wpAnyH_take (i := 7) (oi := ⟨some 64, _, _, _, _, _⟩) (v := .agg A) rfl (by kernel_rfl) (by kernel_rfl) (by kernel_rfl) (fun _ _ _ h => h) (Or.inl ⟨by kernel_rfl, ?_⟩) (by assumption) ?_
      · intro w hSw; exact exec_ld _ 32 (.tmp 4) rfl _ _ rfl 32 A (0, 0) _ hSw.2.1.heap Tryz.underlying32 rfl HSZ.out
      try simp only [Act.put, List.setIfInBounds_toArray, List.set_cons_zero, List.set_cons_succ]
      refine wpAnyH_take (i := 8) (oi := ⟨some 65, _, _, _, _, _⟩) (v := ?_) rfl (by kernel_rfl) (by kernel_rfl) (by kernel_rfl) (fun _ _ _ h => h) (Or.inl ⟨by kernel_rfl, ?_⟩) (by assumption) ?_
      rotate_left
      · intro w hSw; (try dsimp only at hSw); go_simp; try with_reducible rfl
      try simp only [Act.put, List.setIfInBounds_toArray, List.set_cons_zero, List.set_cons_succ]
      refine wpAnyH_ready (rs := [5]) (by kernel_rfl) (by simp) ?_
      refine AllReadyH.cons rfl (fun K hK => ?_) AllReadyH.nil
      have HK := Lib.hid hK
      go_simp
      (with_reducible refine (CB.out _ HZ5.out.bel).mono ?_); rintro q w6 ⟨v6, L6, rfl, ho6, hs6, hm6, hb6⟩; have HZ6 := Lib.hid (HZ5.out.below hb6); have hS6 := (show (fun W' => (∀ j, W'.cell? ⟨w.heap.size, j, none⟩ = (#[.int .i64 z.base, .slice oz nz cz] : Array Value)[j]?) ∧ BxM (w.heap.size + 1) A 32 W' ∧ (∀ j, W'.cell? ⟨w.heap.size + 2, j, none⟩ = (#[.int .i64 f, .int .i64 t] : Array Value)[j]?)) w6 from (And.intro HZ6.out.xz.cell (And.intro HZ6.out.xe HZ6.out.xs.cell))); have HQ6 := Lib.hid (And.intro ho6 (And.intro hs6 hm6)); clear ho6 hs6 hm6 hb6
      go_simp
      refine HK.out _ _ hS6 (fun hHeld => ?_)
      clear HK hK K
      try simp only [Act.put, List.setIfInBounds_toArray, List.set_cons_zero, List.set_cons_succ]
      refine wpAnyH_ready (rs := [9]) (by kernel_rfl) (by simp) ?_
      refine AllReadyH.cons rfl (fun K hK => ?_) AllReadyH.nil
      have HK := Lib.hid hK
      go_simp
      (with_reducible refine (CR.out _ HZ6.out.bel).mono ?_); rintro q w7 ⟨v7, L7, rfl, ho7, hs7, hm7, hb7⟩; have HZ7 := Lib.hid (HZ6.out.below hb7); have hS7 := (show (fun W' => (∀ j, W'.cell? ⟨w.heap.size, j, none⟩ = (#[.int .i64 z.base, .slice oz nz cz] : Array Value)[j]?) ∧ BxM (w.heap.size + 1) A 32 W' ∧ (∀ j, W'.cell? ⟨w.heap.size + 2, j, none⟩ = (#[.int .i64 f, .int .i64 t] : Array Value)[j]?)) w7 from (And.intro HZ7.out.xz.cell (And.intro HZ7.out.xe HZ7.out.xs.cell))); have HLL := Lib.hid (members_ref HQ6.out.2.2 HQ6.out.2.1 hm7 hs7 HW.out); have CS := Lib.hid (c_t (sameSp_any v6 v7 L6 L7 w7 (own_sp (own_laterI HQ6.out.1 hb7)) (own_sp ho7)) HLL.out); clear ho7 hs7 hm7 hb7
      go_simp
      refine HK.out _ _ hS7 (fun hHeld => ?_)
      clear HK hK K
      try simp only [Act.put, List.setIfInBounds_toArray, List.set_cons_zero, List.set_cons_succ]
      refine wpAnyH_ready (rs := [10]) (by kernel_rfl) (by simp) ?_
      refine AllReadyH.cons rfl (fun K hK => ?_) AllReadyH.nil
      have HK := Lib.hid hK
      go_simp
      (with_reducible refine CS.out.mono ?_); rintro q w8 ⟨rfl, m8, hw8⟩; have hb8 := (show Below w7.heap.size w7 w8 from hw8 ▸ below_drewN (Below.refl _ _) m8); have HZ8 := Lib.hid (HZ7.out.below hb8); have hS8 := (show (fun W' => (∀ j, W'.cell? ⟨w.heap.size, j, none⟩ = (#[.int .i64 z.base, .slice oz nz cz] : Array Value)[j]?) ∧ BxM (w.heap.size + 1) A 32 W' ∧ (∀ j, W'.cell? ⟨w.heap.size + 2, j, none⟩ = (#[.int .i64 f, .int .i64 t] : Array Value)[j]?)) w8 from (And.intro HZ8.out.xz.cell (And.intro HZ8.out.xe HZ8.out.xs.cell))); clear hw8 hb8
      go_simp
      refine HK.out _ _ hS8 (fun hHeld => ?_)
      clear HK hK K
      try simp only [Act.put, List.setIfInBounds_toArray, List.set_cons_zero, List.set_cons_succ]
      refine wpAnyH_take (i := 11) (oi := ⟨some 68, _, _, _, _, _⟩) (v := ?_) rfl (by kernel_rfl) (by kernel_rfl) (by kernel_rfl) (fun _ _ _ h => h) (Or.inl ⟨by kernel_rfl, ?_⟩) (by assumption) ?_
      rotate_left
      · intro w hSw; (try dsimp only at hSw); go_simp; try with_reducible rfl
      try simp only [Act.put, List.setIfInBounds_toArray, List.set_cons_zero, List.set_cons_succ]
      refine wpAnyH_take (i := 12) (oi := ⟨some 6, _, _, _, _, _⟩) (v := ?_) rfl (by kernel_rfl) (by kernel_rfl) (by kernel_rfl) (fun _ _ _ h => h) (Or.inl ⟨by kernel_rfl, ?_⟩) (by assumption) ?_
      rotate_left
      · intro w hSw; (try dsimp only at hSw); go_simp; try with_reducible rfl
      try simp only [Act.put, List.setIfInBounds_toArray, List.set_cons_zero, List.set_cons_succ]
      refine wpAnyH_done (by kernel_rfl) ?_ _
      skip
      go_wp2_with fail
      go_ret
      exact ⟨rfl, HZ8.out.bel⟩
end Go.Proofs.YtechgcjdigpglaaGreat
