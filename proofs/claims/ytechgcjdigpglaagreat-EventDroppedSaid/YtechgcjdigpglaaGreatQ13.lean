/- event.Members: ways without members. Conditions: event and zone read, the rows are not too long. -/
import Derived.Test.YtechgcjdigpglaaGreatQD
namespace Go.Proofs.YtechgcjdigpglaaGreat
open Go.RowKit Go.ChangeShapes Go.WideShapes Go.Deep
set_option linter.all false

set_option maxHeartbeats 40000000 in
set_option maxRecDepth 100000 in
theorem members_no (cz ce : List Value) (z : ZoneD) (e : EventD) (f t : Int) (w : World) (hz : rZone w cz z) (h : rEvent w ce e) (hf : fewE e) (hnz : z.turns.length ≤ 1000) (hno : ¬ askOk z e f t) :
    Calls Tryz.prog 16 #[.agg cz.toArray, .agg ce.toArray, .agg #[.int .i64 f, .int .i64 t]] w (MemEnd z e f t w) := by
  have SE := Lib.hid h
  obtain ⟨om, nm, cm, od, nd, cd, oy, ny, cy, op, np, cp, oe, ne, ce, ol, nl, cl, oc, nc, cc, rfl, SR, l1, l2, l3, R1, R2, R3, -, -⟩ := h.opn
  have SZ := Lib.hid hz
  obtain ⟨tz, rfl, -, htz⟩ := hz
  obtain ⟨oz, nz, cz, rfl, -, -, -, -⟩ := htz.open
  have HB := Lib.hid (show Below w.heap.size w (((w.alloc (.cells #[.int .i64 z.base, .slice oz nz cz] 24)).alloc (.cells #[.int .i64 e.start, .int .i64 e.long, .bool e.world, .bool e.again, .int .i64 e.rule.freq, .int .i64 e.rule.interval, .int .i64 e.rule.count, .int .i64 e.rule.until_, .slice om nm cm, .slice od nd cd, .slice oy ny cy, .slice op np cp, .int .i64 e.rule.start, .slice oe ne ce, .slice ol nl cl, .slice oc nc cc] 32)).alloc (.cells #[.int .i64 f, .int .i64 t] 34)) from belowA _ (belowA _ (belowA _ (Below.refl _ _))))
  have xz := BxAt.new w #[.int .i64 z.base, .slice oz nz cz] 24
  have xe := BxAt.new (w.alloc (.cells #[.int .i64 z.base, .slice oz nz cz] 24)) #[.int .i64 e.start, .int .i64 e.long, .bool e.world, .bool e.again, .int .i64 e.rule.freq, .int .i64 e.rule.interval, .int .i64 e.rule.count, .int .i64 e.rule.until_, .slice om nm cm, .slice od nd cd, .slice oy ny cy, .slice op np cp, .int .i64 e.rule.start, .slice oe ne ce, .slice ol nl cl, .slice oc nc cc] 32
  rw [show (w.alloc (.cells #[.int .i64 z.base, .slice oz nz cz] 24)).heap.size = w.heap.size + 1 by simp] at xe
  have xs := BxAt.new ((w.alloc (.cells #[.int .i64 z.base, .slice oz nz cz] 24)).alloc (.cells #[.int .i64 e.start, .int .i64 e.long, .bool e.world, .bool e.again, .int .i64 e.rule.freq, .int .i64 e.rule.interval, .int .i64 e.rule.count, .int .i64 e.rule.until_, .slice om nm cm, .slice od nd cd, .slice oy ny cy, .slice op np cp, .int .i64 e.rule.start, .slice oe ne ce, .slice ol nl cl, .slice oc nc cc] 32)) #[.int .i64 f, .int .i64 t] 34
  rw [show ((w.alloc (.cells #[.int .i64 z.base, .slice oz nz cz] 24)).alloc (.cells #[.int .i64 e.start, .int .i64 e.long, .bool e.world, .bool e.again, .int .i64 e.rule.freq, .int .i64 e.rule.interval, .int .i64 e.rule.count, .int .i64 e.rule.until_, .slice om nm cm, .slice od nd cd, .slice oy ny cy, .slice op np cp, .int .i64 e.rule.start, .slice oe ne ce, .slice ol nl cl, .slice oc nc cc] 32)).heap.size = w.heap.size + 1 + 1 by simp] at xs
  have XZ := Lib.hid (xz.below (belowA (.cells #[.int .i64 e.start, .int .i64 e.long, .bool e.world, .bool e.again, .int .i64 e.rule.freq, .int .i64 e.rule.interval, .int .i64 e.rule.count, .int .i64 e.rule.until_, .slice om nm cm, .slice od nd cd, .slice oy ny cy, .slice op np cp, .int .i64 e.rule.start, .slice oe ne ce, .slice ol nl cl, .slice oc nc cc] 32) (Below.refl _ _))|>.below (belowA (.cells #[.int .i64 f, .int .i64 t] 34) (Below.refl _ _)))
  have XE := Lib.hid (xe.below (belowA (.cells #[.int .i64 f, .int .i64 t] 34) (Below.refl _ _)))
  have XS := Lib.hid xs
  clear xz xe xs
  have CM0 := Lib.hid (fun (W : World) (hb : Below w.heap.size w W) => mayE_any _ e W (SE.out.later hb) hf)
  have CZ0 := Lib.hid (fun (W : World) (hb : Below w.heap.size w W) => zMay_any _ z W (SZ.out.later hb) hnz)
  have HN := Lib.hid hno
  clear SE SZ SR l1 l2 l3 R1 R2 R3 hf hnz htz h hno
  by_cases g0 : mayE e
  · have CM := Lib.hid (fun W hb => c_t (CM0.out W hb) g0)
    by_cases gz : mayZ z
    · have CZ := Lib.hid (fun W hb => c_t (CZ0.out W hb) gz)
      have GG := Lib.hid (And.intro g0 gz)
      clear CM0 CZ0 g0 gz
      by_cases g1 : f < t
      · by_cases g2 : -1099511627776 ≤ f
        · by_cases g3 : t ≤ 1099511627776
          · have d4 : 528480 < t - f := by have := HN.out; unfold askOk at this; have := GG.out; exact Classical.byContradiction fun hq => HN.out ⟨GG.out.1, GG.out.2, g1, g2, g3, by omega⟩
            have hw1 : wrap64 (t - f) = t - f := by unfold wrap64; omega
            have hw2 : IntKind.i64.wrap (t - f) = t - f := by rw [IntKind.wrap_i64]; omega
            have d1 := decide_eq_false (Int.not_le.2 g1)
            have d2 := decide_eq_false (Int.not_lt.2 g2)
            have d3 := decide_eq_false (Int.not_lt.2 g3)
            have d5 := decide_eq_true d4
            clear g1 g2 g3 d4
            go_enter Tryz.func16, Tryz.ntmps16
            go_wp2_with (first
              | (go_at_call 13; ((with_reducible refine (CM.out _ HB.out).mono ?_)); rintro q w1 ⟨rfl, hb1⟩; have XZ1 := Lib.hid (XZ.out.below hb1); have XE1 := Lib.hid (XE.out.below hb1); have XS1 := Lib.hid (XS.out.below hb1); have kZ1 := XZ1.out.cell; have kE1 := XE1.out.cell; have kS1 := XS1.out.cell; have HB1 := Lib.hid (HB.out.trans (hb1.mono HB.out.size)); clear hb1)
              | (go_at_call 50; ((with_reducible refine (CZ.out _ HB1.out).mono ?_)); rintro q w2 ⟨rfl, hb2⟩; have XZ2 := Lib.hid (XZ1.out.below hb2); have XE2 := Lib.hid (XE1.out.below hb2); have XS2 := Lib.hid (XS1.out.below hb2); clear kZ1 kE1 kS1; have kZ2 := XZ2.out.cell; have kE2 := XE2.out.cell; have kS2 := XS2.out.cell; have HB2 := Lib.hid (HB1.out.trans (hb2.mono HB1.out.size)); clear hb2))
            go_ret
            exact ⟨_, [], rfl, World.ownsRow_nil _ _ _ _, .nil, ⟨fun _ => rfl, fun h => absurd h HN.out, fun h => absurd h HN.out⟩, HB2.out⟩
          · have n1 : 1099511627776 < t := by omega
            have d1 := decide_eq_true n1
            have e0 := decide_eq_false (p := t ≤ f) (by omega)
            have e1 := decide_eq_false (p := f < -1099511627776) (by omega)
            clear n1 g1 g2 g3
            go_enter Tryz.func16, Tryz.ntmps16
            go_wp2_with (first
              | (go_at_call 13; ((with_reducible refine (CM.out _ HB.out).mono ?_)); rintro q w1 ⟨rfl, hb1⟩; have XZ1 := Lib.hid (XZ.out.below hb1); have XE1 := Lib.hid (XE.out.below hb1); have XS1 := Lib.hid (XS.out.below hb1); have kZ1 := XZ1.out.cell; have kE1 := XE1.out.cell; have kS1 := XS1.out.cell; have HB1 := Lib.hid (HB.out.trans (hb1.mono HB.out.size)); clear hb1)
              | (go_at_call 50; ((with_reducible refine (CZ.out _ HB1.out).mono ?_)); rintro q w2 ⟨rfl, hb2⟩; have XZ2 := Lib.hid (XZ1.out.below hb2); have XE2 := Lib.hid (XE1.out.below hb2); have XS2 := Lib.hid (XS1.out.below hb2); clear kZ1 kE1 kS1; have kZ2 := XZ2.out.cell; have kE2 := XE2.out.cell; have kS2 := XS2.out.cell; have HB2 := Lib.hid (HB1.out.trans (hb2.mono HB1.out.size)); clear hb2))
            go_ret
            exact ⟨_, [], rfl, World.ownsRow_nil _ _ _ _, .nil, ⟨fun _ => rfl, fun h => absurd h HN.out, fun h => absurd h HN.out⟩, HB2.out⟩
        · have n1 : f < -1099511627776 := by omega
          have d1 := decide_eq_true n1
          have e0 := decide_eq_false (p := t ≤ f) (by omega)
          clear n1 g1 g2
          go_enter Tryz.func16, Tryz.ntmps16
          go_wp2_with (first
            | (go_at_call 13; ((with_reducible refine (CM.out _ HB.out).mono ?_)); rintro q w1 ⟨rfl, hb1⟩; have XZ1 := Lib.hid (XZ.out.below hb1); have XE1 := Lib.hid (XE.out.below hb1); have XS1 := Lib.hid (XS.out.below hb1); have kZ1 := XZ1.out.cell; have kE1 := XE1.out.cell; have kS1 := XS1.out.cell; have HB1 := Lib.hid (HB.out.trans (hb1.mono HB.out.size)); clear hb1)
            | (go_at_call 50; ((with_reducible refine (CZ.out _ HB1.out).mono ?_)); rintro q w2 ⟨rfl, hb2⟩; have XZ2 := Lib.hid (XZ1.out.below hb2); have XE2 := Lib.hid (XE1.out.below hb2); have XS2 := Lib.hid (XS1.out.below hb2); clear kZ1 kE1 kS1; have kZ2 := XZ2.out.cell; have kE2 := XE2.out.cell; have kS2 := XS2.out.cell; have HB2 := Lib.hid (HB1.out.trans (hb2.mono HB1.out.size)); clear hb2))
          go_ret
          exact ⟨_, [], rfl, World.ownsRow_nil _ _ _ _, .nil, ⟨fun _ => rfl, fun h => absurd h HN.out, fun h => absurd h HN.out⟩, HB2.out⟩
      · have n1 : t ≤ f := by omega
        have d1 := decide_eq_true n1
        clear n1 g1
        go_enter Tryz.func16, Tryz.ntmps16
        go_wp2_with (first
          | (go_at_call 13; ((with_reducible refine (CM.out _ HB.out).mono ?_)); rintro q w1 ⟨rfl, hb1⟩; have XZ1 := Lib.hid (XZ.out.below hb1); have XE1 := Lib.hid (XE.out.below hb1); have XS1 := Lib.hid (XS.out.below hb1); have kZ1 := XZ1.out.cell; have kE1 := XE1.out.cell; have kS1 := XS1.out.cell; have HB1 := Lib.hid (HB.out.trans (hb1.mono HB.out.size)); clear hb1)
          | (go_at_call 50; ((with_reducible refine (CZ.out _ HB1.out).mono ?_)); rintro q w2 ⟨rfl, hb2⟩; have XZ2 := Lib.hid (XZ1.out.below hb2); have XE2 := Lib.hid (XE1.out.below hb2); have XS2 := Lib.hid (XS1.out.below hb2); clear kZ1 kE1 kS1; have kZ2 := XZ2.out.cell; have kE2 := XE2.out.cell; have kS2 := XS2.out.cell; have HB2 := Lib.hid (HB1.out.trans (hb2.mono HB1.out.size)); clear hb2))
        go_ret
        exact ⟨_, [], rfl, World.ownsRow_nil _ _ _ _, .nil, ⟨fun _ => rfl, fun h => absurd h HN.out, fun h => absurd h HN.out⟩, HB2.out⟩
    · have CZ := Lib.hid (fun W hb => c_f (CZ0.out W hb) gz)
      clear CM0 CZ0 g0 gz
      go_enter Tryz.func16, Tryz.ntmps16
      go_wp2_with (first
        | (go_at_call 13; ((with_reducible refine (CM.out _ HB.out).mono ?_)); rintro q w1 ⟨rfl, hb1⟩; have XZ1 := Lib.hid (XZ.out.below hb1); have XE1 := Lib.hid (XE.out.below hb1); have XS1 := Lib.hid (XS.out.below hb1); have kZ1 := XZ1.out.cell; have kE1 := XE1.out.cell; have kS1 := XS1.out.cell; have HB1 := Lib.hid (HB.out.trans (hb1.mono HB.out.size)); clear hb1)
        | (go_at_call 50; ((with_reducible refine (CZ.out _ HB1.out).mono ?_)); rintro q w2 ⟨rfl, hb2⟩; have XZ2 := Lib.hid (XZ1.out.below hb2); have XE2 := Lib.hid (XE1.out.below hb2); have XS2 := Lib.hid (XS1.out.below hb2); clear kZ1 kE1 kS1; have kZ2 := XZ2.out.cell; have kE2 := XE2.out.cell; have kS2 := XS2.out.cell; have HB2 := Lib.hid (HB1.out.trans (hb2.mono HB1.out.size)); clear hb2))
      go_ret
      exact ⟨_, [], rfl, World.ownsRow_nil _ _ _ _, .nil, ⟨fun _ => rfl, fun h => absurd h HN.out, fun h => absurd h HN.out⟩, HB2.out⟩
  · have CM := Lib.hid (fun W hb => c_f (CM0.out W hb) g0)
    clear CM0 CZ0 g0
    go_enter Tryz.func16, Tryz.ntmps16
    go_wp2_with (first
      | (go_at_call 13; ((with_reducible refine (CM.out _ HB.out).mono ?_)); rintro q w1 ⟨rfl, hb1⟩; have XZ1 := Lib.hid (XZ.out.below hb1); have XE1 := Lib.hid (XE.out.below hb1); have XS1 := Lib.hid (XS.out.below hb1); have kZ1 := XZ1.out.cell; have kE1 := XE1.out.cell; have kS1 := XS1.out.cell; have HB1 := Lib.hid (HB.out.trans (hb1.mono HB.out.size)); clear hb1))
    go_ret
    exact ⟨_, [], rfl, World.ownsRow_nil _ _ _ _, .nil, ⟨fun _ => rfl, fun h => absurd h HN.out, fun h => absurd h HN.out⟩, HB1.out⟩
end Go.Proofs.YtechgcjdigpglaaGreat
