/- event.Members: an event of the world; another one. Conditions: event and zone read, the rows are not too long. -/
import Derived.Test.YtechgcjdigpglaaGreatQD
namespace Go.Proofs.YtechgcjdigpglaaGreat
open Go.RowKit Go.ChangeShapes Go.WideShapes Go.Deep
set_option linter.all false

set_option maxHeartbeats 40000000 in
set_option maxRecDepth 100000 in
theorem members_world (cz ce : List Value) (z : ZoneD) (e : EventD) (f t : Int) (w : World) (hz : rZone w cz z) (h : rEvent w ce e) (hf : fewE e) (hnz : z.turns.length ≤ 1000) (hok : askOk z e f t) (hwd : e.world = true) :
    Calls Tryz.prog 16 #[.agg cz.toArray, .agg ce.toArray, .agg #[.int .i64 f, .int .i64 t]] w (MemEnd z e f t w) := by
  have SE := Lib.hid h
  obtain ⟨om, nm, cm, od, nd, cd, oy, ny, cy, op, np, cp, oe, ne, ce, ol, nl, cl, oc, nc, cc, rfl, SR, l1, l2, l3, R1, R2, R3, -, -⟩ := h.opn
  have SZ := Lib.hid hz
  obtain ⟨tz, rfl, -, htz⟩ := hz
  obtain ⟨oz, nz, cz, rfl, -, -, -, -⟩ := htz.open
  have CM := Lib.hid (fun (W : World) (hb : Below w.heap.size w W) => c_t (mayE_any _ e W (SE.out.later hb) hf) hok.1)
  have CZ := Lib.hid (fun (W : World) (hb : Below w.heap.size w W) => c_t (zMay_any _ z W (SZ.out.later hb) hnz) hok.2.1)
  simp only [hwd] at CM ⊢
  have HB := Lib.hid (show Below w.heap.size w (((w.alloc (.cells #[.int .i64 z.base, .slice oz nz cz] 24)).alloc (.cells #[.int .i64 e.start, .int .i64 e.long, .bool true, .bool e.again, .int .i64 e.rule.freq, .int .i64 e.rule.interval, .int .i64 e.rule.count, .int .i64 e.rule.until_, .slice om nm cm, .slice od nd cd, .slice oy ny cy, .slice op np cp, .int .i64 e.rule.start, .slice oe ne ce, .slice ol nl cl, .slice oc nc cc] 32)).alloc (.cells #[.int .i64 f, .int .i64 t] 34)) from belowA _ (belowA _ (belowA _ (Below.refl _ _))))
  have xz := BxAt.new w #[.int .i64 z.base, .slice oz nz cz] 24
  have xe := BxAt.new (w.alloc (.cells #[.int .i64 z.base, .slice oz nz cz] 24)) #[.int .i64 e.start, .int .i64 e.long, .bool true, .bool e.again, .int .i64 e.rule.freq, .int .i64 e.rule.interval, .int .i64 e.rule.count, .int .i64 e.rule.until_, .slice om nm cm, .slice od nd cd, .slice oy ny cy, .slice op np cp, .int .i64 e.rule.start, .slice oe ne ce, .slice ol nl cl, .slice oc nc cc] 32
  rw [show (w.alloc (.cells #[.int .i64 z.base, .slice oz nz cz] 24)).heap.size = w.heap.size + 1 by simp] at xe
  have xs := BxAt.new ((w.alloc (.cells #[.int .i64 z.base, .slice oz nz cz] 24)).alloc (.cells #[.int .i64 e.start, .int .i64 e.long, .bool true, .bool e.again, .int .i64 e.rule.freq, .int .i64 e.rule.interval, .int .i64 e.rule.count, .int .i64 e.rule.until_, .slice om nm cm, .slice od nd cd, .slice oy ny cy, .slice op np cp, .int .i64 e.rule.start, .slice oe ne ce, .slice ol nl cl, .slice oc nc cc] 32)) #[.int .i64 f, .int .i64 t] 34
  rw [show ((w.alloc (.cells #[.int .i64 z.base, .slice oz nz cz] 24)).alloc (.cells #[.int .i64 e.start, .int .i64 e.long, .bool true, .bool e.again, .int .i64 e.rule.freq, .int .i64 e.rule.interval, .int .i64 e.rule.count, .int .i64 e.rule.until_, .slice om nm cm, .slice od nd cd, .slice oy ny cy, .slice op np cp, .int .i64 e.rule.start, .slice oe ne ce, .slice ol nl cl, .slice oc nc cc] 32)).heap.size = w.heap.size + 1 + 1 by simp] at xs
  have XZ := Lib.hid (xz.below (belowA (.cells #[.int .i64 e.start, .int .i64 e.long, .bool true, .bool e.again, .int .i64 e.rule.freq, .int .i64 e.rule.interval, .int .i64 e.rule.count, .int .i64 e.rule.until_, .slice om nm cm, .slice od nd cd, .slice oy ny cy, .slice op np cp, .int .i64 e.rule.start, .slice oe ne ce, .slice ol nl cl, .slice oc nc cc] 32) (Below.refl _ _))|>.below (belowA (.cells #[.int .i64 f, .int .i64 t] 34) (Below.refl _ _)))
  have XE := Lib.hid (xe.below (belowA (.cells #[.int .i64 f, .int .i64 t] 34) (Below.refl _ _)))
  have XS := Lib.hid xs
  clear xz xe xs
  have HOK := Lib.hid (And.intro hok hwd)
  obtain ⟨hm, -, g1, g2, g3, g4⟩ := hok
  have hst := hm.1
  unfold startOk at hst
  have hl1 := hm.2.1
  have hl2 := hm.2.2.1
  have hv1 : wrap64 (e.start + e.long) = e.start + e.long := by unfold wrap64; omega
  have hv2 : IntKind.i64.wrap (e.start + e.long) = e.start + e.long := by rw [IntKind.wrap_i64]; omega
  have hw1 : wrap64 (t - f) = t - f := by unfold wrap64; omega
  have hw2 : IntKind.i64.wrap (t - f) = t - f := by rw [IntKind.wrap_i64]; omega
  have d1 : decide (t ≤ f) = false := decide_eq_false (by omega)
  have d2 : decide (f < -1099511627776) = false := decide_eq_false (by omega)
  have d3 : decide (1099511627776 < t) = false := decide_eq_false (by omega)
  have d4 : decide (528480 < t - f) = false := decide_eq_false (by omega)
  clear SE SZ SR l1 l2 l3 R1 R2 R3 hf hnz htz h hm g1 g2 g3 g4 hst hl1 hl2 hwd
  have HI := Lib.hid (show ∀ L, (L = if e.start < t ∧ f < e.start + e.long then [(e.start, e.start + e.long)] else []) → MemIs z e f t L from fun L hL => ⟨fun hn => absurd HOK.out.1 hn, fun _ _ => hL, fun _ hw => by rw [HOK.out.2] at hw; cases hw⟩)
  by_cases c1 : t ≤ e.start
  · have d5 := decide_eq_true c1
    have HL := Lib.hid (HI.out [] (by rw [if_neg (by omega)]))
    clear c1
    go_enter Tryz.func16, Tryz.ntmps16
    go_wp2_with (first
      | (go_at_call 13; ((with_reducible refine (CM.out _ HB.out).mono ?_)); rintro q w1 ⟨rfl, hb1⟩; have XZ1 := Lib.hid (XZ.out.below hb1); have XE1 := Lib.hid (XE.out.below hb1); have XS1 := Lib.hid (XS.out.below hb1); have kZ1 := XZ1.out.cell; have kE1 := XE1.out.cell; have kS1 := XS1.out.cell; have HB1 := Lib.hid (HB.out.trans (hb1.mono HB.out.size)); clear hb1)
      | (go_at_call 50; ((with_reducible refine (CZ.out _ HB1.out).mono ?_)); rintro q w2 ⟨rfl, hb2⟩; have XZ2 := Lib.hid (XZ1.out.below hb2); have XE2 := Lib.hid (XE1.out.below hb2); have XS2 := Lib.hid (XS1.out.below hb2); clear kZ1 kE1 kS1; have kZ2 := XZ2.out.cell; have kE2 := XE2.out.cell; have kS2 := XS2.out.cell; have HB2 := Lib.hid (HB1.out.trans (hb2.mono HB1.out.size)); clear hb2))
    go_ret
    exact ⟨_, [], rfl, World.ownsRow_nil _ _ _ _, .nil, HL.out, HB2.out⟩
  · have d5 := decide_eq_false c1
    by_cases c2 : e.start + e.long ≤ f
    · have d6 := decide_eq_true c2
      have HL := Lib.hid (HI.out [] (by rw [if_neg (by omega)]))
      clear c1 c2
      go_enter Tryz.func16, Tryz.ntmps16
      go_wp2_with (first
        | (go_at_call 13; ((with_reducible refine (CM.out _ HB.out).mono ?_)); rintro q w1 ⟨rfl, hb1⟩; have XZ1 := Lib.hid (XZ.out.below hb1); have XE1 := Lib.hid (XE.out.below hb1); have XS1 := Lib.hid (XS.out.below hb1); have kZ1 := XZ1.out.cell; have kE1 := XE1.out.cell; have kS1 := XS1.out.cell; have HB1 := Lib.hid (HB.out.trans (hb1.mono HB.out.size)); clear hb1)
        | (go_at_call 50; ((with_reducible refine (CZ.out _ HB1.out).mono ?_)); rintro q w2 ⟨rfl, hb2⟩; have XZ2 := Lib.hid (XZ1.out.below hb2); have XE2 := Lib.hid (XE1.out.below hb2); have XS2 := Lib.hid (XS1.out.below hb2); clear kZ1 kE1 kS1; have kZ2 := XZ2.out.cell; have kE2 := XE2.out.cell; have kS2 := XS2.out.cell; have HB2 := Lib.hid (HB1.out.trans (hb2.mono HB1.out.size)); clear hb2))
      go_ret
      exact ⟨_, [], rfl, World.ownsRow_nil _ _ _ _, .nil, HL.out, HB2.out⟩
    · have d6 := decide_eq_false c2
      have HL := Lib.hid (HI.out [(e.start, e.start + e.long)] (by rw [if_pos (by omega)]))
      clear c1 c2
      go_enter Tryz.func16, Tryz.ntmps16
      go_wp2_with (first
        | (go_at_call 13; ((with_reducible refine (CM.out _ HB.out).mono ?_)); rintro q w1 ⟨rfl, hb1⟩; have XZ1 := Lib.hid (XZ.out.below hb1); have XE1 := Lib.hid (XE.out.below hb1); have XS1 := Lib.hid (XS.out.below hb1); have kZ1 := XZ1.out.cell; have kE1 := XE1.out.cell; have kS1 := XS1.out.cell; have HB1 := Lib.hid (HB.out.trans (hb1.mono HB.out.size)); clear hb1)
        | (go_at_call 50; ((with_reducible refine (CZ.out _ HB1.out).mono ?_)); rintro q w2 ⟨rfl, hb2⟩; have XZ2 := Lib.hid (XZ1.out.below hb2); have XE2 := Lib.hid (XE1.out.below hb2); have XS2 := Lib.hid (XS1.out.below hb2); clear kZ1 kE1 kS1; have kZ2 := XZ2.out.cell; have kE2 := XE2.out.cell; have kS2 := XS2.out.cell; have HB2 := Lib.hid (HB1.out.trans (hb2.mono HB1.out.size)); clear hb2))
      go_ret
      refine ⟨_, [(e.start, e.start + e.long)], rfl, ⟨rfl, .inr ⟨w2.heap.size, 1, #[.int .i64 e.start, .int .i64 (e.start + e.long)], rfl, HB2.out.size, ?_, Nat.le_refl _, by unfold maxLen; omega, rfl, rfl⟩⟩, List.pairwise_singleton _ _, HL.out, belowA _ HB2.out⟩
      exact heap_new _ _ _ rfl

end Go.Proofs.YtechgcjdigpglaaGreat
