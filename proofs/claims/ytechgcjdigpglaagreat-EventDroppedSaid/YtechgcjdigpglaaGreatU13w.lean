/- ref11.Members. Conditions: event and zone read, the rows are not too long. ref11.Members. Conditions: event and zone read, the rows are not too long. -/
import Derived.Test.YtechgcjdigpglaaGreatU13p
import Derived.Deep.DeepCutAuto
import Derived.Deep.RegionHeld3
namespace Go.Proofs.YtechgcjdigpglaaGreat
open Go.RowKit Go.ChangeShapes Go.WideShapes Go.Deep
set_option linter.all false

set_option maxHeartbeats 40000000 in
set_option maxRecDepth 100000 in
theorem refMembers_no (cz ce : List Value) (z : ZoneD) (e : EventD) (f t : Int) (w : World) (hz : rZone w cz z) (h : rEvent w ce e) (hf : fewE e) (hnz : z.turns.length ≤ 1000) (hok : ¬ askR z e f t) :
    Calls Tryz.prog 17 #[.agg cz.toArray, .agg ce.toArray, .agg #[.int .i64 f, .int .i64 t]] w (RefEnd z e f t w) := by
  have HN := Lib.hid hok
  obtain ⟨iS, hiS, hzS0, hzS1, hzS2⟩ := info_parts infoSpan
  obtain ⟨i6, hi6, hz60, hz61, hz62⟩ := info_parts info64
  have SE := Lib.hid h
  have SZ := Lib.hid hz
  obtain ⟨om, nm, cm, od, nd, cd, oy, ny, cy, op, np, cp, oe, ne, ce, ol, nl, cl, oc, nc, cc, rfl, SR, l1, l2, l3, R1, R2, R3, -, -⟩ := h.opn
  obtain ⟨tz, rfl, -, htz⟩ := hz
  obtain ⟨oz, nz, cz, rfl, -, -, -, -⟩ := htz.open
  obtain ⟨A, hA⟩ : ∃ A, A = ([.int .i64 e.start, .int .i64 e.long, .bool e.world, .bool e.again, .int .i64 e.rule.freq, .int .i64 e.rule.interval, .int .i64 e.rule.count, .int .i64 e.rule.until_, .slice om nm cm, .slice od nd cd, .slice oy ny cy, .slice op np cp, .int .i64 e.rule.start, .slice oe ne ce, .slice ol nl cl, .slice oc nc cc] : List Value).toArray := ⟨_, rfl⟩
  have CM := Lib.hid (fun (W : World) (hb : Below w.heap.size w W) => refEMay_any _ e W (SE.out.later hb) hf)
  have CZ := Lib.hid (fun (W : World) (hb : Below w.heap.size w W) => refZMay_any _ z W (SZ.out.later hb) hnz)
  rw [← hA] at CM ⊢
  have hA16 : A.size = 16 := by rw [hA]; rfl
  have HSZ := Lib.hid (show (Tryz.prog.info? 32).map (·.size) = some A.size by rw [hA16]; kernel_rfl)
  have a0 : A[0]? = some (.int .i64 e.start) := by rw [hA]; rfl
  have a1 : A[1]? = some (.int .i64 e.long) := by rw [hA]; rfl
  have a2 : A[2]? = some (.bool e.world) := by rw [hA]; rfl
  have a3 : A[3]? = some (.bool e.again) := by rw [hA]; rfl
  have a4 : A[4]? = some (.int .i64 e.rule.freq) := by rw [hA]; rfl
  have a5 : A[5]? = some (.int .i64 e.rule.interval) := by rw [hA]; rfl
  have a6 : A[6]? = some (.int .i64 e.rule.count) := by rw [hA]; rfl
  have a7 : A[7]? = some (.int .i64 e.rule.until_) := by rw [hA]; rfl
  have a8 : A[8]? = some (.slice om nm cm) := by rw [hA]; rfl
  have a9 : A[9]? = some (.slice od nd cd) := by rw [hA]; rfl
  have a10 : A[10]? = some (.slice oy ny cy) := by rw [hA]; rfl
  have a11 : A[11]? = some (.slice op np cp) := by rw [hA]; rfl
  have a12 : A[12]? = some (.int .i64 e.rule.start) := by rw [hA]; rfl
  have a13 : A[13]? = some (.slice oe ne ce) := by rw [hA]; rfl
  have a14 : A[14]? = some (.slice ol nl cl) := by rw [hA]; rfl
  have a15 : A[15]? = some (.slice oc nc cc) := by rw [hA]; rfl
  have XE0 := BxM.new (w.alloc (.cells #[.int .i64 z.base, .slice oz nz cz] 24)) A 32
  rw [show (w.alloc (.cells #[.int .i64 z.base, .slice oz nz cz] 24)).heap.size = w.heap.size + 1 by simp] at XE0
  have XS0 := BxM.new ((w.alloc (.cells #[.int .i64 z.base, .slice oz nz cz] 24)).alloc (.cells A 32)) #[.int .i64 f, .int .i64 t] 34
  rw [show ((w.alloc (.cells #[.int .i64 z.base, .slice oz nz cz] 24)).alloc (.cells A 32)).heap.size = w.heap.size + 2 by simp] at XS0
  have HO0 := empty_ownz (((w.alloc (.cells #[.int .i64 z.base, .slice oz nz cz] 24)).alloc (.cells A 32)).alloc (.cells #[.int .i64 f, .int .i64 t] 34)) (w.heap.size + 3) 34 2 (by simp)
  rw [show (((w.alloc (.cells #[.int .i64 z.base, .slice oz nz cz] 24)).alloc (.cells A 32)).alloc (.cells #[.int .i64 f, .int .i64 t] 34)).heap.size = w.heap.size + 3 by simp] at HO0
  have HR0 := Lib.hid (show RM #[.int .i64 z.base, .slice oz nz cz] A #[.int .i64 f, .int .i64 t] (.slice (some ⟨w.heap.size + 3, 0, none⟩) 0 0) (.slice none 0 0) [] [] w ((((w.alloc (.cells #[.int .i64 z.base, .slice oz nz cz] 24)).alloc (.cells A 32)).alloc (.cells #[.int .i64 f, .int .i64 t] 34)).alloc (.cells #[] 34)) from
    ⟨belowA _ (belowA _ (belowA _ (belowA _ (Below.refl _ _)))), (((BxM.new w #[.int .i64 z.base, .slice oz nz cz] 24).alloc _).alloc _).alloc _, (XE0.alloc _).alloc _, XS0.alloc _, HO0, (fun h => by cases h), World.ownsRow_nil _ _ _ _⟩)
  have kZ := HR0.out.xz.cell
  have kS := HR0.out.xs.cell
  have kE := HR0.out.xe.cell
  clear XE0 XS0 HO0
  clear SR l1 l2 l3 R1 R2 R3 htz hf h hnz hA hA16 hok
  by_cases hb : f < t ∧ -1000000000000 ≤ f ∧ t ≤ 1000000000000
  · obtain ⟨hb1, hb2, hb3⟩ := hb
    have hw1 : wrap64 (t - f) = t - f := by unfold wrap64; omega
    have hw2 : IntKind.i64.wrap (t - f) = t - f := by rw [IntKind.wrap_i64]; omega
    have d1 : decide (t ≤ f) = false := decide_eq_false (by omega)
    have d2 : decide (f < -1000000000000) = false := decide_eq_false (by omega)
    have d3 : decide (1000000000000 < t) = false := decide_eq_false (by omega)
    go_enter Tryz.func17, Tryz.ntmps17
    go_upto_region 2 with fail
    refine wp_region_lit ?_
    refine wpList_ld ?_ 32 (.tmp 4) rfl (w.heap.size + 1) rfl 32 A (0, 0) _ HR0.out.xe.heap Tryz.underlying32 rfl HSZ.out ?_
    · simp [Region.wanted, yielded]
    go_wp2_with (first
      | (go_at_call 14; ((with_reducible refine (CM.out _ HR0.out.bel).mono ?_)); rintro q w1 ⟨rfl, hb1⟩; have HR1 := Lib.hid (HR0.out.below hb1); clear kZ kS kE; have kZ := HR1.out.xz.cell; have kS := HR1.out.xs.cell; have kE := HR1.out.xe.cell; clear hb1)
      | (go_at_call 21; ((with_reducible refine (CZ.out _ HR1.out.bel).mono ?_)); rintro q w2 ⟨rfl, hb2⟩; have HR2 := Lib.hid (HR1.out.below hb2); clear kZ kS kE; have kZ := HR2.out.xz.cell; have kS := HR2.out.xs.cell; have kE := HR2.out.xe.cell; clear hb2))
    all_goals first
      | (go_ret; first | exact ⟨_, [], rfl, own_base (HR2).out.o7 (by omega), .nil, ⟨fun _ => rfl, fun h => absurd h HN.out, fun h => absurd h HN.out⟩, (HR2).out.bel⟩ | exact ⟨_, [], rfl, own_base (HR1).out.o7 (by omega), .nil, ⟨fun _ => rfl, fun h => absurd h HN.out, fun h => absurd h HN.out⟩, (HR1).out.bel⟩)
      | (exfalso; have hn := HN.out; clear HN CM CZ HR0 HR1 HR2 SE SZ; (try simp only [decide_eq_true_eq, true_iff, dec_iff, decf_iff, Int.not_lt, Int.not_le, beq_iff_eq, Bool.not_eq_true', Bool.not_eq_false', Bool.false_eq_true, false_iff] at *); first | omega | exact hn ⟨by assumption, by assumption, by omega, by omega, by omega, by omega⟩)
  · obtain ⟨D, hD⟩ : ∃ D, D = wrap64 (t - f) := ⟨_, rfl⟩
    have hw1 : wrap64 (t - f) = D := hD.symm
    have hw2 : IntKind.i64.wrap (t - f) = D := by rw [hD, IntKind.wrap_i64]; unfold wrap64; omega
    clear hD
    go_enter Tryz.func17, Tryz.ntmps17
    go_upto_region 2 with fail
    refine wp_region_lit ?_
    refine wpList_ld ?_ 32 (.tmp 4) rfl (w.heap.size + 1) rfl 32 A (0, 0) _ HR0.out.xe.heap Tryz.underlying32 rfl HSZ.out ?_
    · simp [Region.wanted, yielded]
    go_wp2_with (first
      | (go_at_call 14; ((with_reducible refine (CM.out _ HR0.out.bel).mono ?_)); rintro q w1 ⟨rfl, hb1⟩; have HR1 := Lib.hid (HR0.out.below hb1); clear kZ kS kE; have kZ := HR1.out.xz.cell; have kS := HR1.out.xs.cell; have kE := HR1.out.xe.cell; clear hb1)
      | (go_at_call 21; ((with_reducible refine (CZ.out _ HR1.out.bel).mono ?_)); rintro q w2 ⟨rfl, hb2⟩; have HR2 := Lib.hid (HR1.out.below hb2); clear kZ kS kE; have kZ := HR2.out.xz.cell; have kS := HR2.out.xs.cell; have kE := HR2.out.xe.cell; clear hb2))
    all_goals first
      | (go_ret; first | exact ⟨_, [], rfl, own_base (HR2).out.o7 (by omega), .nil, ⟨fun _ => rfl, fun h => absurd h HN.out, fun h => absurd h HN.out⟩, (HR2).out.bel⟩ | exact ⟨_, [], rfl, own_base (HR1).out.o7 (by omega), .nil, ⟨fun _ => rfl, fun h => absurd h HN.out, fun h => absurd h HN.out⟩, (HR1).out.bel⟩)
      | (exfalso; have hn := HN.out; clear HN CM CZ HR0 HR1 HR2 SE SZ; (try simp only [decide_eq_true_eq, true_iff, dec_iff, decf_iff, Int.not_lt, Int.not_le, beq_iff_eq, Bool.not_eq_true', Bool.not_eq_false', Bool.false_eq_true, false_iff] at *); first | omega | exact hn ⟨by assumption, by assumption, by omega, by omega, by omega, by omega⟩)

end Go.Proofs.YtechgcjdigpglaaGreat
namespace Go.Proofs.YtechgcjdigpglaaGreat
open Go.RowKit Go.ChangeShapes Go.WideShapes Go.Deep
set_option linter.all false

set_option maxHeartbeats 40000000 in
set_option maxRecDepth 100000 in
theorem refMembers_world (cz ce : List Value) (z : ZoneD) (e : EventD) (f t : Int) (w : World) (hz : rZone w cz z) (h : rEvent w ce e) (hf : fewE e) (hnz : z.turns.length ≤ 1000) (hok : askR z e f t) (hwd0 : e.world = true) :
    Calls Tryz.prog 17 #[.agg cz.toArray, .agg ce.toArray, .agg #[.int .i64 f, .int .i64 t]] w (RefEnd z e f t w) := by
  have hwd := hwd0.symm
  have HOK := Lib.hid (And.intro hok hwd0)
  obtain ⟨iS, hiS, hzS0, hzS1, hzS2⟩ := info_parts infoSpan
  obtain ⟨i6, hi6, hz60, hz61, hz62⟩ := info_parts info64
  have SE := Lib.hid h
  have SZ := Lib.hid hz
  obtain ⟨om, nm, cm, od, nd, cd, oy, ny, cy, op, np, cp, oe, ne, ce, ol, nl, cl, oc, nc, cc, rfl, SR, l1, l2, l3, R1, R2, R3, -, -⟩ := h.opn
  obtain ⟨tz, rfl, -, htz⟩ := hz
  obtain ⟨oz, nz, cz, rfl, -, -, -, -⟩ := htz.open
  obtain ⟨A, hA⟩ : ∃ A, A = ([.int .i64 e.start, .int .i64 e.long, .bool e.world, .bool e.again, .int .i64 e.rule.freq, .int .i64 e.rule.interval, .int .i64 e.rule.count, .int .i64 e.rule.until_, .slice om nm cm, .slice od nd cd, .slice oy ny cy, .slice op np cp, .int .i64 e.rule.start, .slice oe ne ce, .slice ol nl cl, .slice oc nc cc] : List Value).toArray := ⟨_, rfl⟩
  have CM := Lib.hid (fun (W : World) (hb : Below w.heap.size w W) => refEMay_any _ e W (SE.out.later hb) hf)
  have CZ := Lib.hid (fun (W : World) (hb : Below w.heap.size w W) => refZMay_any _ z W (SZ.out.later hb) hnz)
  rw [← hA] at CM ⊢
  have hA16 : A.size = 16 := by rw [hA]; rfl
  have HSZ := Lib.hid (show (Tryz.prog.info? 32).map (·.size) = some A.size by rw [hA16]; kernel_rfl)
  have a0 : A[0]? = some (.int .i64 e.start) := by rw [hA]; rfl
  have a1 : A[1]? = some (.int .i64 e.long) := by rw [hA]; rfl
  have a2 : A[2]? = some (.bool true) := by rw [hA, ← hwd]; rfl
  have a3 : A[3]? = some (.bool e.again) := by rw [hA]; rfl
  have a4 : A[4]? = some (.int .i64 e.rule.freq) := by rw [hA]; rfl
  have a5 : A[5]? = some (.int .i64 e.rule.interval) := by rw [hA]; rfl
  have a6 : A[6]? = some (.int .i64 e.rule.count) := by rw [hA]; rfl
  have a7 : A[7]? = some (.int .i64 e.rule.until_) := by rw [hA]; rfl
  have a8 : A[8]? = some (.slice om nm cm) := by rw [hA]; rfl
  have a9 : A[9]? = some (.slice od nd cd) := by rw [hA]; rfl
  have a10 : A[10]? = some (.slice oy ny cy) := by rw [hA]; rfl
  have a11 : A[11]? = some (.slice op np cp) := by rw [hA]; rfl
  have a12 : A[12]? = some (.int .i64 e.rule.start) := by rw [hA]; rfl
  have a13 : A[13]? = some (.slice oe ne ce) := by rw [hA]; rfl
  have a14 : A[14]? = some (.slice ol nl cl) := by rw [hA]; rfl
  have a15 : A[15]? = some (.slice oc nc cc) := by rw [hA]; rfl
  have XE0 := BxM.new (w.alloc (.cells #[.int .i64 z.base, .slice oz nz cz] 24)) A 32
  rw [show (w.alloc (.cells #[.int .i64 z.base, .slice oz nz cz] 24)).heap.size = w.heap.size + 1 by simp] at XE0
  have XS0 := BxM.new ((w.alloc (.cells #[.int .i64 z.base, .slice oz nz cz] 24)).alloc (.cells A 32)) #[.int .i64 f, .int .i64 t] 34
  rw [show ((w.alloc (.cells #[.int .i64 z.base, .slice oz nz cz] 24)).alloc (.cells A 32)).heap.size = w.heap.size + 2 by simp] at XS0
  have HO0 := empty_ownz (((w.alloc (.cells #[.int .i64 z.base, .slice oz nz cz] 24)).alloc (.cells A 32)).alloc (.cells #[.int .i64 f, .int .i64 t] 34)) (w.heap.size + 3) 34 2 (by simp)
  rw [show (((w.alloc (.cells #[.int .i64 z.base, .slice oz nz cz] 24)).alloc (.cells A 32)).alloc (.cells #[.int .i64 f, .int .i64 t] 34)).heap.size = w.heap.size + 3 by simp] at HO0
  have HR0 := Lib.hid (show RM #[.int .i64 z.base, .slice oz nz cz] A #[.int .i64 f, .int .i64 t] (.slice (some ⟨w.heap.size + 3, 0, none⟩) 0 0) (.slice none 0 0) [] [] w ((((w.alloc (.cells #[.int .i64 z.base, .slice oz nz cz] 24)).alloc (.cells A 32)).alloc (.cells #[.int .i64 f, .int .i64 t] 34)).alloc (.cells #[] 34)) from
    ⟨belowA _ (belowA _ (belowA _ (belowA _ (Below.refl _ _)))), (((BxM.new w #[.int .i64 z.base, .slice oz nz cz] 24).alloc _).alloc _).alloc _, (XE0.alloc _).alloc _, XS0.alloc _, HO0, (fun h => by cases h), World.ownsRow_nil _ _ _ _⟩)
  have kZ := HR0.out.xz.cell
  have kS := HR0.out.xs.cell
  have kE := HR0.out.xe.cell
  clear XE0 XS0 HO0
  have CM1 := Lib.hid (fun W hb => c_t (CM.out W hb) hok.1)
  have CZ1 := Lib.hid (fun W hb => c_t (CZ.out W hb) hok.2.1)
  obtain ⟨hm, -, g1, g2, g3, g4⟩ := hok
  have hst := hm.1
  unfold startOk at hst
  have hl1 := hm.2.1
  have hl2 := hm.2.2.1
  have hv1 : wrap64 (e.start + e.long) = e.start + e.long := by unfold wrap64; omega
  have hv2 : IntKind.i64.wrap (e.start + e.long) = e.start + e.long := by rw [IntKind.wrap_i64]; omega
  have hw1 : wrap64 (t - f) = t - f := by unfold wrap64; omega
  have hw2 : IntKind.i64.wrap (t - f) = t - f := by rw [IntKind.wrap_i64]; omega
  have d1 : decide (t ≤ f) = false := decide_eq_false (by omega)
  have d2 : decide (f < -1000000000000) = false := decide_eq_false (by omega)
  have d3 : decide (1000000000000 < t) = false := decide_eq_false (by omega)
  have d4 : decide (528480 < t - f) = false := decide_eq_false (by omega)
  have HI := Lib.hid (show ∀ L, (L = if e.start < t ∧ f < e.start + e.long then [(e.start, e.start + e.long)] else []) → RefMem z e f t L from fun L hL => ⟨fun hn => absurd HOK.out.1 hn, fun _ _ => hL, fun _ hw => by rw [HOK.out.2] at hw; cases hw⟩)
  clear SR l1 l2 l3 R1 R2 R3 htz hf h hnz hA hA16 hwd hwd0 hm CM CZ
  by_cases c1 : e.start < t
  · have d5 : decide (e.start < t) = true := decide_eq_true c1
    by_cases c2 : f < e.start + e.long
    · have d6 : decide (f < e.start + e.long) = true := decide_eq_true c2
      have HL := Lib.hid (HI.out [(e.start, e.start + e.long)] (by rw [if_pos ⟨c1, c2⟩]))
      clear c1 c2 g1 g2 g3 g4
      go_enter Tryz.func17, Tryz.ntmps17
      go_upto_region 2 with fail
      refine wp_region_lit ?_
      refine wpList_ld ?_ 32 (.tmp 4) rfl (w.heap.size + 1) rfl 32 A (0, 0) _ HR0.out.xe.heap Tryz.underlying32 rfl HSZ.out ?_
      · simp [Region.wanted, yielded]
      go_wp2_with (first | (first
  | (go_at_call 14; ((with_reducible refine (CM1.out _ HR0.out.bel).mono ?_)); rintro q w1 ⟨rfl, hb1⟩; have HR1 := Lib.hid (HR0.out.below hb1); clear kZ kS kE; have kZ := HR1.out.xz.cell; have kS := HR1.out.xs.cell; have kE := HR1.out.xe.cell; clear hb1)
  | (go_at_call 21; ((with_reducible refine (CZ1.out _ HR1.out.bel).mono ?_)); rintro q w2 ⟨rfl, hb2⟩; have HR2 := Lib.hid (HR1.out.below hb2); clear kZ kS kE; have kZ := HR2.out.xz.cell; have kS := HR2.out.xs.cell; have kE := HR2.out.xe.cell; clear hb2)) | (at_builtin; refine wpList_append_own (w2.alloc (.cells #[.int .i64 e.start, .int .i64 (e.start + e.long)] 34)) rfl (.tmp 67) (.tmp 76) 38 rfl (w.heap.size + 3) 34 iS (.agg #[.int .i64 0, .int .i64 0]) 2 16 underSpans hiS hzS0 hzS1 hzS2 rfl (by decide) (.slice (some ⟨w.heap.size + 1 + 1 + 1, 0, none⟩) 0 0) 0 [] rfl (HR2.out.o7.alloc _) ⟨w2.heap.size, 0, none⟩ 1 1 [.int .i64 e.start, .int .i64 (e.start + e.long)] rfl rfl ?c1 (by intro u hu; simp at hu; rcases hu with rfl | rfl <;> rfl) (by unfold maxLen; omega) (by omega) ?c5 ?_))
      case c1 =>
        intro j u hj
        rw [show (⟨w2.heap.size, 0, none⟩ : Addr).add j = ⟨w2.heap.size, j, none⟩ by (simp [Addr.add]; intro h; exact h.symm), cell_of_row _ _ _ _ _ _ (heap_alloc_new _ _)]
        simpa using hj
      case c5 => have := HR2.out.xs.lt; simp; omega
      intro v9 w9 hown hgrow _
      have HB9 := Lib.hid ((HR2.out.bel.alloc HR2.out.bel.size (.cells #[.int .i64 e.start, .int .i64 (e.start + e.long)] 34)).grown hgrow (by have := HR2.out.bel.size; simp; omega) (fun j hj => by have := (HR2.out.o7.lt j hj).1; omega))
      have HO9 := Lib.hid (show w9.ownsRow (w.heap.size + 3) 34 2 v9 1 (spC [(e.start, e.start + e.long)]) from hown)
      clear hown hgrow
      go_wp2_with fail
      go_ret
      exact ⟨v9, [(e.start, e.start + e.long)], rfl, own_base HO9.out (by omega), List.pairwise_singleton _ _, HL.out, HB9.out⟩
    · have d6 : decide (f < e.start + e.long) = false := decide_eq_false c2
      have HL := Lib.hid (HI.out [] (by rw [if_neg (fun h => c2 h.2)]))
      clear c1 c2
      go_enter Tryz.func17, Tryz.ntmps17
      go_upto_region 2 with fail
      refine wp_region_lit ?_
      refine wpList_ld ?_ 32 (.tmp 4) rfl (w.heap.size + 1) rfl 32 A (0, 0) _ HR0.out.xe.heap Tryz.underlying32 rfl HSZ.out ?_
      · simp [Region.wanted, yielded]
      go_wp2_with (first
  | (go_at_call 14; ((with_reducible refine (CM1.out _ HR0.out.bel).mono ?_)); rintro q w1 ⟨rfl, hb1⟩; have HR1 := Lib.hid (HR0.out.below hb1); clear kZ kS kE; have kZ := HR1.out.xz.cell; have kS := HR1.out.xs.cell; have kE := HR1.out.xe.cell; clear hb1)
  | (go_at_call 21; ((with_reducible refine (CZ1.out _ HR1.out.bel).mono ?_)); rintro q w2 ⟨rfl, hb2⟩; have HR2 := Lib.hid (HR1.out.below hb2); clear kZ kS kE; have kZ := HR2.out.xz.cell; have kS := HR2.out.xs.cell; have kE := HR2.out.xe.cell; clear hb2))
      go_ret
      exact ⟨_, [], rfl, own_base HR2.out.o7 (by omega), .nil, HL.out, HR2.out.bel⟩
  · have d5 : decide (e.start < t) = false := decide_eq_false c1
    have HL := Lib.hid (HI.out [] (by rw [if_neg (fun h => c1 h.1)]))
    clear c1
    go_enter Tryz.func17, Tryz.ntmps17
    go_upto_region 2 with fail
    refine wp_region_lit ?_
    refine wpList_ld ?_ 32 (.tmp 4) rfl (w.heap.size + 1) rfl 32 A (0, 0) _ HR0.out.xe.heap Tryz.underlying32 rfl HSZ.out ?_
    · simp [Region.wanted, yielded]
    go_wp2_with (first
  | (go_at_call 14; ((with_reducible refine (CM1.out _ HR0.out.bel).mono ?_)); rintro q w1 ⟨rfl, hb1⟩; have HR1 := Lib.hid (HR0.out.below hb1); clear kZ kS kE; have kZ := HR1.out.xz.cell; have kS := HR1.out.xs.cell; have kE := HR1.out.xe.cell; clear hb1)
  | (go_at_call 21; ((with_reducible refine (CZ1.out _ HR1.out.bel).mono ?_)); rintro q w2 ⟨rfl, hb2⟩; have HR2 := Lib.hid (HR1.out.below hb2); clear kZ kS kE; have kZ := HR2.out.xz.cell; have kS := HR2.out.xs.cell; have kE := HR2.out.xe.cell; clear hb2))
    go_ret
    exact ⟨_, [], rfl, own_base HR2.out.o7 (by omega), .nil, HL.out, HR2.out.bel⟩

end Go.Proofs.YtechgcjdigpglaaGreat
