/- ref11.At. Conditions: the event may be, its rows are not too long. -/
import Derived.Test.YtechgcjdigpglaaGreatU7
import Derived.Test.YtechgcjdigpglaaGreatU9
import Derived.Test.YtechgcjdigpglaaGreatQ5
namespace Go.Proofs.YtechgcjdigpglaaGreat
open Go.RowKit Go.ChangeShapes Go.WideShapes Go.Deep
set_option linter.all false

theorem wfi_allT {r : RuleD} {start x : Int} (hr : mayR r) (hs : startOk start) (h : x ∈ allT r start) : wfi .i64 x := by
  have := mem_allT hr hs h
  have := hs.1
  simp [wfi, IntKind.min, IntKind.max, IntKind.bits, IntKind.signed]; omega
set_option maxHeartbeats 8000000 in
set_option maxRecDepth 100000 in
theorem refAt_any (cs : List Value) (e : EventD) (x : Int) (w : World) (h : rEvent w cs e) (hf : fewE e) (hm : mayE e) :
    Calls Tryz.prog 18 #[.agg cs.toArray, .int .i64 x] w fun r w' => r = .returned (.bool (dec (atE e x))) ∧ Below w.heap.size w w' := by
  obtain ⟨om, nm, cm, od, nd, cd, oy, ny, cy, op, np, cp, oe, ne, ce, ol, nl, cl, oc, nc, cc, rfl, SR, l1, l2, l3, R1, R2, R3, -, -⟩ := h.opn
  have HB0 := Lib.hid (show Below w.heap.size w (w.alloc (.cells #[.int .i64 e.start, .int .i64 e.long, .bool e.world, .bool e.again, .int .i64 e.rule.freq, .int .i64 e.rule.interval, .int .i64 e.rule.count, .int .i64 e.rule.until_, .slice om nm cm, .slice od nd cd, .slice oy ny cy, .slice op np cp, .int .i64 e.rule.start, .slice oe ne ce, .slice ol nl cl, .slice oc nc cc] 32)) from belowA _ (Below.refl _ _))
  have ST := Lib.hid (fun W => refStamp_any x W)
  have C1 := Lib.hid (fun (W : World) (hb : Below w.heap.size w W) => refIn_any _ _ x W (R1.later' hb) (by have := hf.x; omega))
  have C2 := Lib.hid (fun (W : World) (hb : Below w.heap.size w W) => refIn_any _ _ x W (R2.later' hb) (by have := hf.p; omega))
  have HM := Lib.hid hm
  have HAG := Lib.hid (show e.again = e.again from rfl)
  have CT := Lib.hid (show e.again = true → ∀ below W, Below w.heap.size w W → Calls Tryz.prog 57 #[.agg #[.int .i64 e.rule.freq, .int .i64 e.rule.interval, .int .i64 e.rule.count, .int .i64 e.rule.until_, .slice om nm cm, .slice od nd cd, .slice oy ny cy, .slice op np cp, .int .i64 e.rule.start], .int .i64 e.start, .int .i64 below] W fun r w' => ∃ v l, r = .returned v ∧ l = (allT e.rule e.start).filter (fun x => decide (x < below * 1440)) ∧ l.length ≤ 110000 ∧ w'.ownsRow W.heap.size 2 1 v l.length (inC l) ∧ Below W.heap.size W w' from fun ha below W hb => refTimes_any _ e.rule e.start below W (SR.later hb) hf.r (hm.2.2.2.2 ha).2.1 hm.1)
  clear R1 R2 R3 SR l1 l2 l3 hf h hm
  cases ha : e.again with
  | false =>
    have HD := Lib.hid (show atE e x ↔ x = e.start from ⟨fun h => h.2.1 ha, fun h => ⟨HM.out, fun _ => h, (fun h2 => by rw [ha] at h2; cases h2)⟩⟩)
    simp only [ha] at HB0
    clear ha HAG CT
    go_enter Tryz.func18, Tryz.ntmps18
    go_wp2_with fail
    go_ret
    exact ⟨ret_dec (by rw [HD.out]; simp), HB0.out⟩
  | true =>
    have HA := Lib.hid ha
    have HD := Lib.hid (show atE e x ↔ ¬ x ∈ e.ex ∧ (x ∈ e.plus ∨ x ∈ allT e.rule e.start) from ⟨fun h => h.2.2 ha, fun h => ⟨HM.out, (fun h2 => by rw [ha] at h2; cases h2), fun _ => h⟩⟩)
    have CT1 := Lib.hid (CT.out ha)
    simp only [ha] at HB0
    clear ha HAG CT
    by_cases hx : x ∈ e.ex
    · have C11 := Lib.hid (fun W hb => c_t (C1.out W hb) hx)
      have HN := Lib.hid (show ¬ atE e x from fun h => (HD.out.1 h).1 hx)
      clear hx
      go_enter Tryz.func18, Tryz.ntmps18
      go_wp2_with (go_at_call 58; ((with_reducible refine (C11.out _ HB0.out).mono ?_)); rintro q w1 ⟨rfl, hb1⟩; obtain rfl := hb1.symm)
      go_ret
      exact ⟨ret_f HN.out, HB0.out⟩
    · have C11 := Lib.hid (fun W hb => c_f (C1.out W hb) hx)
      have HX := Lib.hid hx
      clear hx
      by_cases hs : startOk x
      · have ST1 := Lib.hid (fun W => c_t (ST.out W) hs)
        by_cases hp : x ∈ e.plus
        · have C21 := Lib.hid (fun W hb => c_t (C2.out W hb) hp)
          have HY := Lib.hid (show atE e x from HD.out.2 ⟨HX.out, .inl hp⟩)
          clear hp hs
          go_enter Tryz.func18, Tryz.ntmps18
          go_wp2_with (first | (go_at_call 46; ((with_reducible refine (ST1.out _).mono ?_)); rintro q w1 ⟨rfl, hb1⟩; obtain rfl := hb1.symm) | (go_at_call 58; ((with_reducible refine (C11.out _ HB0.out).mono ?_)); rintro q w1 ⟨rfl, hb1⟩; obtain rfl := hb1.symm) | (go_at_call 58; ((with_reducible refine (C21.out _ HB0.out).mono ?_)); rintro q w1 ⟨rfl, hb1⟩; obtain rfl := hb1.symm))
          go_ret
          exact ⟨ret_t HY.out, HB0.out⟩
        · have C21 := Lib.hid (fun W hb => c_f (C2.out W hb) hp)
          have s0 : 0 ≤ x := hs.1
          have s1 : x < 158310720 := hs.2
          have HY := Lib.hid (show atE e x ↔ x ∈ (allT e.rule e.start).filter (fun y => decide (y < (x / 1440 + 1) * 1440)) by
            rw [HD.out, List.mem_filter, decide_eq_true_eq]
            exact ⟨fun h => ⟨h.2.resolve_left hp, by omega⟩, fun h => ⟨HX.out, .inr h.1⟩⟩)
          have HW := Lib.hid (show ∀ y ∈ (allT e.rule e.start).filter (fun y => decide (y < (x / 1440 + 1) * 1440)), wfi .i64 y from fun y hy => wfi_allT (HM.out.2.2.2.2 HA.out).2.1 HM.out.1 (List.mem_filter.1 hy).1)
          clear hp hs
          go_enter Tryz.func18, Tryz.ntmps18
          go_wp2_with (first | (go_at_call 46; ((with_reducible refine (ST1.out _).mono ?_)); rintro q w1 ⟨rfl, hb1⟩; obtain rfl := hb1.symm) | (go_at_call 58; ((with_reducible refine (C11.out _ HB0.out).mono ?_)); rintro q w1 ⟨rfl, hb1⟩; obtain rfl := hb1.symm) | (go_at_call 58; ((with_reducible refine (C21.out _ HB0.out).mono ?_)); rintro q w1 ⟨rfl, hb1⟩; obtain rfl := hb1.symm))
          (with_reducible refine (CT1.out _ _ HB0.out).mono ?_)
          rintro q w2 ⟨v2, l2, rfl, hl2, hn2, ho2, hb2⟩
          have C3 := Lib.hid (refIn_any v2 l2 x w2 (row_ints ho2 (by rw [hl2]; exact HW.out)) (by omega))
          have HL := Lib.hid (show x ∈ l2 ↔ atE e x by rw [HY.out, hl2])
          have HB2 := Lib.hid (HB0.out.trans (hb2.mono HB0.out.size))
          clear hl2 hn2 ho2 hb2
          go_wp2_with fail
          (with_reducible refine C3.out.mono ?_)
          rintro q w3 ⟨rfl, hb3⟩
          obtain rfl := hb3.symm
          go_wp2_with fail
          go_ret
          exact ⟨ret_dec (by rw [dec_iff]; exact HL.out), HB2.out⟩
      · have ST1 := Lib.hid (fun W => c_f (ST.out W) hs)
        have HN := Lib.hid (show ¬ atE e x from fun h => by
          have h2 := (HM.out.2.2.2.2 HA.out)
          rcases (HD.out.1 h).2 with h3 | h3
          · exact hs (h2.2.2.2.1.1 x h3)
          · have := mem_allT h2.2.1 HM.out.1 h3
            exact hs ⟨by have := HM.out.1.1; omega, this.2.2⟩)
        clear hs
        go_enter Tryz.func18, Tryz.ntmps18
        go_wp2_with (first | (go_at_call 46; ((with_reducible refine (ST1.out _).mono ?_)); rintro q w1 ⟨rfl, hb1⟩; obtain rfl := hb1.symm) | (go_at_call 58; ((with_reducible refine (C11.out _ HB0.out).mono ?_)); rintro q w1 ⟨rfl, hb1⟩; obtain rfl := hb1.symm))
        go_ret
        exact ⟨ret_f HN.out, HB0.out⟩
end Go.Proofs.YtechgcjdigpglaaGreat
