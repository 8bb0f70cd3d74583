/- ref11.Members. Conditions: event and zone read, the rows are not too long. -/
import Derived.Test.YtechgcjdigpglaaGreatU13p
import Derived.Deep.DeepCutAuto
import Derived.Deep.CutBlock
import Derived.Deep.RegionHeld3
namespace Go.Proofs.YtechgcjdigpglaaGreat
open Go.RowKit Go.ChangeShapes Go.WideShapes Go.Deep
set_option linter.all false

set_option maxHeartbeats 40000000 in
set_option maxRecDepth 100000 in
theorem refMembers_own (cz ce : List Value) (z : ZoneD) (e : EventD) (f t : Int) (w : World) (hz : rZone w cz z) (h : rEvent w ce e) (hf : fewE e) (hnz : z.turns.length ≤ 1000) (hok : askR z e f t) (hwd0 : e.world = false) :
    Calls Tryz.prog 17 #[.agg cz.toArray, .agg ce.toArray, .agg #[.int .i64 f, .int .i64 t]] w (RefEnd z e f t w) := by
  have hwd := hwd0.symm
  have HOK := Lib.hid (And.intro hok hwd0)
  obtain ⟨iS, hiS, hzS0, hzS1, hzS2⟩ := info_parts infoSpan
  obtain ⟨i6, hi6, hz60, hz61, hz62⟩ := info_parts info64
  have SE := Lib.hid h
  have SZ := Lib.hid hz
  obtain ⟨om, nm, cm, od, nd, cd, oy, ny, cy, op, np, cp, oe, ne, ce, ol, nl, cl, oc, nc, cc, rfl, SR, l1, l2, l3, R1, R2, R3, -, -⟩ := h.opn
  obtain ⟨tz, rfl, -, htz⟩ := hz
  obtain ⟨oz, nz, cz, rfl, -, -, -, -⟩ := htz.open
  obtain ⟨A, hA⟩ : ∃ A, A = ([.int .i64 e.start, .int .i64 e.long, .bool e.world, .bool e.again, .int .i64 e.rule.freq, .int .i64 e.rule.interval, .int .i64 e.rule.count, .int .i64 e.rule.until_, .slice om nm cm, .slice od nd cd, .slice oy ny cy, .slice op np cp, .int .i64 e.rule.start, .slice oe ne ce, .slice ol nl cl, .slice oc nc cc] : List Value).toArray := ⟨_, rfl⟩
  have CM := Lib.hid (fun (W : World) (hb : Below w.heap.size w W) => refEMay_any _ e W (SE.out.later hb) hf)
  have CZ := Lib.hid (fun (W : World) (hb : Below w.heap.size w W) => refZMay_any _ z W (SZ.out.later hb) hnz)
  rw [← hA] at CM ⊢
  have hA16 : A.size = 16 := by rw [hA]; rfl
  have HSZ := Lib.hid (show (Tryz.prog.info? 32).map (·.size) = some A.size by rw [hA16]; kernel_rfl)
  have a0 : A[0]? = some (.int .i64 e.start) := by rw [hA]; rfl
  have a1 : A[1]? = some (.int .i64 e.long) := by rw [hA]; rfl
  have a2 : A[2]? = some (.bool false) := by rw [hA, ← hwd]; rfl
  have a3 : A[3]? = some (.bool e.again) := by rw [hA]; rfl
  have a4 : A[4]? = some (.int .i64 e.rule.freq) := by rw [hA]; rfl
  have a5 : A[5]? = some (.int .i64 e.rule.interval) := by rw [hA]; rfl
  have a6 : A[6]? = some (.int .i64 e.rule.count) := by rw [hA]; rfl
  have a7 : A[7]? = some (.int .i64 e.rule.until_) := by rw [hA]; rfl
  have a8 : A[8]? = some (.slice om nm cm) := by rw [hA]; rfl
  have a9 : A[9]? = some (.slice od nd cd) := by rw [hA]; rfl
  have a10 : A[10]? = some (.slice oy ny cy) := by rw [hA]; rfl
  have a11 : A[11]? = some (.slice op np cp) := by rw [hA]; rfl
  have a12 : A[12]? = some (.int .i64 e.rule.start) := by rw [hA]; rfl
  have a13 : A[13]? = some (.slice oe ne ce) := by rw [hA]; rfl
  have a14 : A[14]? = some (.slice ol nl cl) := by rw [hA]; rfl
  have a15 : A[15]? = some (.slice oc nc cc) := by rw [hA]; rfl
  have XE0 := BxM.new (w.alloc (.cells #[.int .i64 z.base, .slice oz nz cz] 24)) A 32
  rw [show (w.alloc (.cells #[.int .i64 z.base, .slice oz nz cz] 24)).heap.size = w.heap.size + 1 by simp] at XE0
  have XS0 := BxM.new ((w.alloc (.cells #[.int .i64 z.base, .slice oz nz cz] 24)).alloc (.cells A 32)) #[.int .i64 f, .int .i64 t] 34
  rw [show ((w.alloc (.cells #[.int .i64 z.base, .slice oz nz cz] 24)).alloc (.cells A 32)).heap.size = w.heap.size + 2 by simp] at XS0
  have HO0 := empty_ownz (((w.alloc (.cells #[.int .i64 z.base, .slice oz nz cz] 24)).alloc (.cells A 32)).alloc (.cells #[.int .i64 f, .int .i64 t] 34)) (w.heap.size + 3) 34 2 (by simp)
  rw [show (((w.alloc (.cells #[.int .i64 z.base, .slice oz nz cz] 24)).alloc (.cells A 32)).alloc (.cells #[.int .i64 f, .int .i64 t] 34)).heap.size = w.heap.size + 3 by simp] at HO0
  have HR0 := Lib.hid (show RM #[.int .i64 z.base, .slice oz nz cz] A #[.int .i64 f, .int .i64 t] (.slice (some ⟨w.heap.size + 3, 0, none⟩) 0 0) (.slice none 0 0) [] [] w ((((w.alloc (.cells #[.int .i64 z.base, .slice oz nz cz] 24)).alloc (.cells A 32)).alloc (.cells #[.int .i64 f, .int .i64 t] 34)).alloc (.cells #[] 34)) from
    ⟨belowA _ (belowA _ (belowA _ (belowA _ (Below.refl _ _)))), (((BxM.new w #[.int .i64 z.base, .slice oz nz cz] 24).alloc _).alloc _).alloc _, (XE0.alloc _).alloc _, XS0.alloc _, HO0, (fun h => by cases h), World.ownsRow_nil _ _ _ _⟩)
  have kZ := HR0.out.xz.cell
  have kS := HR0.out.xs.cell
  have kE := HR0.out.xe.cell
  clear XE0 XS0 HO0
  have CM1 := Lib.hid (fun W hb => c_t (CM.out W hb) hok.1)
  have CZ1 := Lib.hid (fun W hb => c_t (CZ.out W hb) hok.2.1)
  have CT := Lib.hid (show e.again = true → ∀ below W, Below w.heap.size w W → Calls Tryz.prog 57 #[.agg #[.int .i64 e.rule.freq, .int .i64 e.rule.interval, .int .i64 e.rule.count, .int .i64 e.rule.until_, .slice om nm cm, .slice od nd cd, .slice oy ny cy, .slice op np cp, .int .i64 e.rule.start], .int .i64 e.start, .int .i64 below] W fun r w' => ∃ v l, r = .returned v ∧ l = (allT e.rule e.start).filter (fun x => decide (x < below * 1440)) ∧ l.length ≤ 110000 ∧ w'.ownsRow W.heap.size 2 1 v l.length (inC l) ∧ Below W.heap.size W w' from fun ha below W hb => refTimes_any _ e.rule e.start below W (SR.later hb) hf.r (hok.1.2.2.2.2 ha).2.1 hok.1.1)
  have CI0 := Lib.hid (fun (x : Int) (W : World) (hb : Below w.heap.size w W) => refIn_any _ e.ex x W (R1.later' hb) (by have := hf.x; omega))
  have CA := Lib.hid (fun (x : Int) (W : World) (hb : Below w.heap.size w W) => refAt_any _ e x W (SE.out.later hb) hf hok.1)
  rw [← hA] at CA
  have CMEM := Lib.hid (fun (a l : Int) (v : Value) (L : List (Int × Int)) (W : World) (hb : Below w.heap.size w W) (q0 : 0 ≤ a) (q1 : a < 158310720) (q2 : 0 ≤ l) (q3 : l ≤ 10080) (q4 : W.ownsRow (w.heap.size + 3) 34 2 v L.length (spC L)) (q5 : w.heap.size + 3 ≤ W.heap.size) (q6 : v ≠ .slice none 0 0) (q7 : L.Pairwise spLe) (q8 : L.length ≤ 1000000) => refMember_any _ z a l f t v L W (SZ.out.later hb) hok.2.1 hnz q0 q1 q2 q3 q4 q5 q6 q7 q8)
  have RP := Lib.hid R2
  have RC := Lib.hid R3
  have L2 := Lib.hid l2
  have L3 := Lib.hid l3
  have hnl : nl ≤ 10000 := by have := hf.p; omega
  have hnc : nc ≤ 10000 := by have := hf.c; omega
  obtain ⟨hm, -, g1, g2, g3, g4⟩ := hok
  have hst := hm.1
  unfold startOk at hst
  have hl1 := hm.2.1
  have hl2 := hm.2.2.1
  have hw1 : wrap64 (t - f) = t - f := by unfold wrap64; omega
  have hw2 : IntKind.i64.wrap (t - f) = t - f := by rw [IntKind.wrap_i64]; omega
  have d1 : decide (t ≤ f) = false := decide_eq_false (by omega)
  have d2 : decide (f < -1000000000000) = false := decide_eq_false (by omega)
  have d3 : decide (1000000000000 < t) = false := decide_eq_false (by omega)
  have d4 : decide (528480 < t - f) = false := decide_eq_false (by omega)
  have HM := Lib.hid hm
  clear SR l1 l2 l3 R1 R2 R3 htz hf h hnz hA hA16 hwd hwd0 hm CM CZ
  go_enter Tryz.func17, Tryz.ntmps17
  go_upto_region 2 with fail
  refine wp_region_lit ?_
  refine wpList_ld ?_ 32 (.tmp 4) rfl (w.heap.size + 1) rfl 32 A (0, 0) _ HR0.out.xe.heap Tryz.underlying32 rfl HSZ.out ?_
  · simp [Region.wanted, yielded]
  go_upto_region 9 with (first
  | (go_at_call 14; ((with_reducible refine (CM1.out _ HR0.out.bel).mono ?_)); rintro q w1 ⟨rfl, hb1⟩; have HR1 := Lib.hid (HR0.out.below hb1); clear kZ kS kE; have kZ := HR1.out.xz.cell; have kS := HR1.out.xs.cell; have kE := HR1.out.xe.cell; clear hb1)
  | (go_at_call 21; ((with_reducible refine (CZ1.out _ HR1.out.bel).mono ?_)); rintro q w2 ⟨rfl, hb2⟩; have HR2 := Lib.hid (HR1.out.below hb2); clear kZ kS kE; have kZ := HR2.out.xz.cell; have kS := HR2.out.xs.cell; have kE := HR2.out.xe.cell; clear hb2))
  have HR5 := Lib.hid (show RM #[.int .i64 z.base, .slice oz nz cz] A #[.int .i64 f, .int .i64 t] (.slice (some ⟨w.heap.size + 3, 0, none⟩) 0 0) (.slice (some ⟨w2.heap.size, 0, none⟩) 1 1) [] [e.start] w (w2.alloc (.cells #[.int .i64 e.start] 2)) from HR2.out.new8 ((Below.refl _ _).alloc (Nat.le_refl _) _) ⟨rfl, .inr ⟨w2.heap.size, 1, #[.int .i64 e.start], rfl, Nat.le_refl _, heap_alloc_new _ _, Nat.le_refl _, by unfold maxLen; omega, rfl, rfl⟩⟩)
  clear kZ kS kE
  have kZ := HR5.out.xz.cell
  have kS := HR5.out.xs.cell
  have kE := HR5.out.xe.cell
  go_upto_if 83 with fail
  go_cut [8] (fun v8 W => ∃ T, Hid (RM #[.int .i64 z.base, .slice oz nz cz] A #[.int .i64 f, .int .i64 t] (.slice (some ⟨w.heap.size + 3, 0, none⟩) 0 0) v8 [] T w W) ∧ Hid (TimesOk e t T))
  case first =>
    cases ha : e.again with
    | false =>
      rw [ha] at a3
      have HT := Lib.hid (times_one (t := t) HM.out ha)
      clear ha
      go_wp2_with fail
      go_meet
      exact ⟨[e.start], HR5, HT⟩
    | true =>
      rw [ha] at a3
      have HA := Lib.hid ha
      have CT1 := Lib.hid (CT.out ha)
      clear ha
      obtain ⟨Q, hQ⟩ : ∃ Q, Q = (t + 2000).tdiv 1440 := ⟨_, rfl⟩
      obtain ⟨hq0, hq1, hq2⟩ := quo_bd (a := t + 2000) (by omega) (by omega)
      rw [← hQ] at hq0 hq1 hq2
      have hQ1 := hQ.symm
      have hv1 : wrap64 (t + 2000) = t + 2000 := by unfold wrap64; omega
      have hv2 : wrap64 (Q + 1) = Q + 1 := by unfold wrap64; omega
      have hv3 : wrap64 Q = Q := by unfold wrap64; omega
      have HBL := Lib.hid (show ∀ x, 0 ≤ x → x ≤ t + 2000 → x < (Q + 1) * 1440 from fun x h1 h2 => by have := hq2 (by omega); omega)
      clear hQ hq2
      have C := Lib.hid (CT1.out (Q + 1) (w2.alloc (.cells #[.int .i64 e.start] 2)) HR5.out.bel)
      go_wp2_with ((go_at_call 57); (with_reducible refine C.out.mono ?_))
      rintro q w6 ⟨v8, T0, rfl, hT0, hn0, ho8, hb6⟩
      have HR6 := Lib.hid (HR5.out.new8 hb6 ho8)
      have HA8 := Lib.hid (show ∀ k, v8.ownBlock = some k → (Value.slice (some ⟨w.heap.size + 3, 0, none⟩) 0 0).ownBlock ≠ some k from fun k hk e1 => by
        have := (own_low1 ho8 hk).1
        have := (own_low1 HR5.out.o7 (show (Value.slice (some ⟨w.heap.size + 3, 0, none⟩) 0 0).ownBlock = some (w.heap.size + 3) from rfl)).2
        simp [Value.ownBlock] at e1; omega)
      have HT0 := Lib.hid hT0
      have HN0 := Lib.hid hn0
      have HP0 := Lib.hid (PlusTo.start (e := e) (T0 := T0) (by rw [hT0]; exact ((allT_rise (HM.out.2.2.2.2 HA.out).2.1 HM.out.1).imp fun h => by omega).filter _))
      have HW0 := Lib.hid (show ∀ y ∈ T0, startOk y from fun y hy => by
        rw [hT0, List.mem_filter] at hy
        have := mem_allT (HM.out.2.2.2.2 HA.out).2.1 HM.out.1 hy.1
        exact ⟨by have := HM.out.1.1; omega, this.2.2⟩)
      clear hT0 hn0 ho8 hb6 kZ kS kE hv1 hv2 hv3 hQ1
      have kE := HR6.out.xe.cell
      go_wp2_with fail
      go_loopw [8, 97] (fun v8 i wr => ∃ (k : Nat) (T : List Int), k ≤ nl ∧ i = .int .i64 (k : Nat) ∧ Hid (RM #[.int .i64 z.base, .slice oz nz cz] A #[.int .i64 f, .int .i64 t] (.slice (some ⟨w.heap.size + 3, 0, none⟩) 0 0) v8 [] T w wr) ∧ Hid (∀ k, v8.ownBlock = some k → (Value.slice (some ⟨w.heap.size + 3, 0, none⟩) 0 0).ownBlock ≠ some k) ∧ Hid (PlusTo e T0 T k)) (fun _ i _ => nl - (intOf i).toNat)
      case atStart => exact ⟨0, T0, Nat.zero_le _, rfl, HR6, HA8, HP0⟩
      case round =>
        clear kE HR6 HA8 HP0
        obtain ⟨k, T, hk, rfl, HRk, HAk, HPk⟩ := hrel
        obtain ⟨wl, rfl⟩ : ∃ x, x = wr := ⟨_, rfl⟩
        have kE := HRk.out.xe.cell
        by_cases hlt : k < nl
        · have hlt' : (k : Int) < (nl : Int) := by omega
          obtain ⟨x, b1, hx, rfl, _, e0⟩ := RP.out.intAt HRk.out.bel k hlt
          have HX := Lib.hid hx
          have htl : T.length ≤ 130000 := by have := HPk.out.len; have := HN0.out; omega
          have HWT := Lib.hid (show ∀ y ∈ T, wfi .i64 y from fun y hy => wfi_st (by
            rcases (HPk.out.is y).1 hy with h1 | ⟨i, _, h1⟩
            · exact HW0.out y h1
            · exact (HM.out.2.2.2.2 HA.out).2.2.2.1.1 y (List.mem_of_getElem? h1)))
          have CI1 := Lib.hid (refIn_any u8 T x wl (row_ints HRk.out.o8 HWT.out) (by omega))
          clear hx
          by_cases hmem : x ∈ T
          · have CI := Lib.hid (c_t CI1.out hmem)
            have HP2 := Lib.hid (HPk.out.old HX.out hmem)
            clear hmem CI1
            go_wp2_with (go_at_call 58; ((with_reducible refine (CI.out).mono ?_)); rintro q9 w9 ⟨rfl, hb9⟩; obtain rfl := hb9.symm)
            go_roundw
            case measure => simp [intOf]; omega
            case rel => exact ⟨k + 1, T, by omega, by go_num, HRk, HAk, HP2⟩
          · have CI := Lib.hid (c_f CI1.out hmem)
            have HP2 := Lib.hid (HPk.out.new HX.out hmem)
            have HRa := Lib.hid (HRk.out.below ((Below.refl _ _).alloc (Nat.le_refl _) (.cells #[.int .i64 x] 2)))
            have HSZ2 := Lib.hid (show w.heap.size + 3 ≤ (wl.alloc (.cells #[.int .i64 x] 2)).heap.size from by have := HRa.out.xs.lt; omega)
            have HCE := Lib.hid (show World.cell? (wl.alloc (.cells #[.int .i64 x] 2)) ⟨wl.heap.size, 0, none⟩ = some (.int .i64 x) by rw [cell_of_row _ _ _ _ _ _ (heap_alloc_new _ _)]; rfl)
            clear hmem CI1
            go_wp2_with (first | (go_at_call 58; ((with_reducible refine (CI.out).mono ?_)); rintro q9 w9 ⟨rfl, hb9⟩; obtain rfl := hb9.symm) | (at_builtin; refine append_own1 (wl.alloc (.cells #[.int .i64 x] 2)) rfl (.tmp 108) (.tmp 114) 29 rfl (w.heap.size + 3) 2 i6 (.int .i64 0) under64 hi6 hz60 hz61 hz62 rfl u8 T.length (inC T) rfl HRa.out.o8 ⟨wl.heap.size, 0, none⟩ (.int .i64 x) rfl HCE.out rfl (by unfold maxLen; omega) (by omega) HSZ2.out ?_))
            intro v9 w9 hown hgrow hv'
            have HR9 := Lib.hid (HRa.out.app8 HAk.out hown hgrow (hv'.imp id fun h k hk => by have := h k hk; simp; omega))
            clear hown hgrow hv'
            go_wp2_with fail
            go_roundw
            case measure => simp [intOf]; omega
            case rel => exact ⟨k + 1, T ++ [x], by omega, by go_num, Lib.hid HR9.out.1, Lib.hid HR9.out.2, HP2⟩
        · obtain rfl : nl = k := by omega
          have HT := Lib.hid (times_all (t := t) HM.out HA.out HT0.out HBL.out HN0.out (by rw [L2.out]; exact HPk.out))
          go_wp2_with fail
          go_meet
          exact ⟨T, HRk, HT⟩
  case rest =>
  clear kZ kS kE HR5 HR2 HR1 HR0
  obtain ⟨T, HR3, HT⟩ := hcut
  obtain ⟨wt, rfl⟩ : ∃ x, x = wc := ⟨_, rfl⟩
  have HWT := Lib.hid (show ∀ y ∈ T, wfi .i64 y from fun y hy => wfi_st (HT.out.st y hy))
  have hnT := HT.out.len
  obtain ⟨o8, c8, hu8⟩ := own_slice2 HR3.out.o8
  subst hu8
  obtain ⟨n8, hn8⟩ : ∃ n, n = T.length := ⟨_, rfl⟩
  have HN8 := Lib.hid hn8
  rw [← hn8] at HR3 hnT ⊢
  clear hn8
  go_wp2_with fail
  go_loopw [7, 119] (fun v7 i wr => ∃ (k : Nat) (M : List (Int × Int)), k ≤ n8 ∧ i = .int .i64 (k : Nat) ∧ Hid (RM #[.int .i64 z.base, .slice oz nz cz] A #[.int .i64 f, .int .i64 t] v7 (.slice o8 n8 c8) M T w wr) ∧ Hid (M.Pairwise spLe ∧ M.Perm (memA z e f t (T.take k)))) (fun _ i _ => n8 - (intOf i).toNat)
  case atStart => exact ⟨0, [], Nat.zero_le _, rfl, HR3, Lib.hid ⟨.nil, List.Perm.refl _⟩⟩
  case round =>
    clear HR3
    obtain ⟨k, M, hk, rfl, HRk, HMk⟩ := hrel
    obtain ⟨wl, rfl⟩ : ∃ x, x = wr := ⟨_, rfl⟩
    have kZ := HRk.out.xz.cell
    have kS := HRk.out.xs.cell
    have kE := HRk.out.xe.cell
    by_cases hlt : k < n8
    · have hlt' : (k : Int) < (n8 : Int) := by omega
      have hro := row_ints HRk.out.o8 HWT.out
      obtain ⟨x, b1, hx, rfl, _, e0⟩ := hro.intAt (Below.refl _ _) k hlt
      have HX := Lib.hid hx
      have hxs := HT.out.st x (List.mem_of_getElem? hx)
      obtain ⟨hx0, hx1⟩ := hxs
      clear hx hro
      have hw3 : wrap64 (f - 20000) = f - 20000 := by unfold wrap64; omega
      have hw4 : wrap64 (t + 2000) = t + 2000 := by unfold wrap64; omega
      have HSN := Lib.hid (show memA z e f t (T.take (k + 1)) = memA z e f t (T.take k) ++ if dec (keepP e f t x) = true then memF z x e.long f t else [] by
        rw [List.take_add_one, HX.out]; exact memA_snoc ..)
      go_upto_block 4 with fail
      go_cut [12, 129] (fun v j W => (∃ b, v = .bool b ∧ Hid (b = dec (changedE e x))) ∧ W = wl)
      case first =>
        go_wp2_with fail
        go_loopw [12, 129] (fun v j wr => ∃ (m : Nat) (b : Bool), m ≤ nc ∧ j = .int .i64 (m : Nat) ∧ v = .bool b ∧ Hid (b = dec (∃ (i : Nat) (c : ChangeD), i < m ∧ e.changes[i]? = some c ∧ c.at_ = x)) ∧ wr = wl) (fun _ j _ => nc - (intOf j).toNat)
        case atStart => exact ⟨0, false, Nat.zero_le _, rfl, rfl, Lib.hid (dec_f fun ⟨i, c, h, _⟩ => absurd h (Nat.not_lt_zero _)).symm, rfl⟩
        case round =>
          obtain ⟨m, b, hmc, rfl, rfl, HBm, rfl⟩ := hrel
          by_cases hlm : m < nc
          · have hlm' : (m : Int) < (nc : Int) := by omega
            obtain ⟨y, b2, cs2, hy, rfl, _, ⟨rfl, _, _, _⟩, f0, _⟩ := RC.out.elem HRk.out.bel m hlm
            have f0 := f0 (by decide)
            simp only [List.getElem?_cons_zero, List.getElem?_cons_succ] at f0
            have HY := Lib.hid hy
            have HST := Lib.hid (show (∃ (i : Nat) (c : ChangeD), i < m + 1 ∧ e.changes[i]? = some c ∧ c.at_ = x) ↔ (∃ (i : Nat) (c : ChangeD), i < m ∧ e.changes[i]? = some c ∧ c.at_ = x) ∨ y.at_ = x from ⟨fun ⟨i, c, h1, h2, h3⟩ => by
              by_cases e1 : i = m
              · subst e1; rw [HY.out] at h2; cases h2; exact .inr h3
              · exact .inl ⟨i, c, by omega, h2, h3⟩, fun h => h.elim (fun ⟨i, c, h1, h2, h3⟩ => ⟨i, c, by omega, h2, h3⟩) fun h => ⟨m, y, by omega, HY.out, h⟩⟩)
            clear hy
            cases b with
            | true =>
              go_wp2_with fail
              go_roundw
              case measure => simp [intOf]; omega
              case rel => exact ⟨m + 1, true, by omega, by go_num, rfl, Lib.hid (dec_t (HST.out.2 (.inl (dec_iff.1 HBm.out.symm)))).symm, (by trivial)⟩
            | false =>
              go_wp2_with fail
              go_roundw
              case measure => simp [intOf]; omega
              case rel => exact ⟨m + 1, _, by omega, by go_num, rfl, Lib.hid (bool_dec (by
                rw [HST.out, beq_iff_eq]
                exact ⟨.inr, fun h => h.resolve_left fun h => by have := HBm.out; rw [dec_t h] at this; cases this⟩)), (by trivial)⟩
          · obtain rfl : nc = m := by omega
            go_wp2_with fail
            go_meet
            exact ⟨⟨b, rfl, Lib.hid (by
              rw [HBm.out]
              exact dec_congr ⟨fun ⟨i, c, _, h2, h3⟩ => ⟨c, List.mem_of_getElem? h2, h3⟩, fun ⟨c, hc, h3⟩ => by
                obtain ⟨i, hi⟩ := List.getElem?_of_mem hc
                exact ⟨i, c, by have := (List.getElem?_eq_some_iff.1 hi).1; have := L3.out; omega, hi, h3⟩⟩)⟩, rfl⟩
      case rest =>
      obtain ⟨⟨b, rfl, HBc⟩, rfl⟩ := hcut
      have CI := Lib.hid (CI0.out x wc HRk.out.bel)
      go_upto_region 27 with fail
      go_cut [164] (fun v W => (∃ b, v = .bool b ∧ Hid (b = dec (¬ keepP e f t x))) ∧ W = wc)
      case first =>
        have HKP := Lib.hid (show (¬ keepP e f t x) ↔ (b = true ∨ x ∈ e.ex ∨ x < f - 20000 ∨ t + 2000 < x) by
          have hbc : b = true ↔ changedE e x := by rw [HBc.out, dec_iff]
          rw [hbc]; unfold keepP struckE
          constructor
          · intro h
            by_cases h1 : changedE e x
            · exact .inl h1
            · by_cases h2 : x ∈ e.ex
              · exact .inr (.inl h2)
              · by_cases h3 : x < f - 20000
                · exact .inr (.inr (.inl h3))
                · by_cases h4 : t + 2000 < x
                  · exact .inr (.inr (.inr h4))
                  · exact absurd ⟨⟨by omega, by omega⟩, fun h5 => h5.elim h2 h1⟩ h
          · rintro (h | h | h | h) ⟨h1, h2⟩
            · exact h2 (.inr h)
            · exact h2 (.inl h)
            · omega
            · omega)
        cases b with
        | true =>
          go_wp2_with fail
          go_meet
          exact ⟨⟨true, rfl, Lib.hid (dec_t (HKP.out.2 (.inl (by trivial)))).symm⟩, rfl⟩
        | false =>
          go_wp2_with (go_at_call 58; ((with_reducible refine (CI.out).mono ?_)); rintro q9 w9 ⟨rfl, hb9⟩; obtain rfl := hb9.symm)
          all_goals go_meet
          all_goals refine ⟨⟨_, rfl, Lib.hid (bool_dec ?_)⟩, rfl⟩
          all_goals rw [HKP.out]
          all_goals clear HKP CI HBc HSN HX HRk HMk HT CMEM CA CT CI0 HOK SE SZ HSZ CM1 CZ1 RP RC L2 L3 HM HWT HN8
          all_goals (try simp only [decide_eq_true_eq, true_iff, dec_iff, decf_iff, Int.not_lt, Int.not_le, beq_iff_eq, Bool.not_eq_true', Bool.not_eq_false', Bool.false_eq_true, false_iff] at *)
          all_goals first | grind | omega
      case rest =>
      obtain ⟨⟨b3, rfl, HB3⟩, rfl⟩ := hcut
      cases b3 with
      | true =>
        have HS2 := Lib.hid (show memA z e f t (T.take (k + 1)) = memA z e f t (T.take k) by rw [HSN.out, if_neg (by rw [dec_f (dec_iff.1 HB3.out.symm)]; decide), List.append_nil])
        go_wp2_with fail
        go_roundw
        case measure => simp [intOf]; omega
        case rel => exact ⟨k + 1, M, by omega, by go_num, HRk, Lib.hid (by rw [HS2.out]; exact HMk.out)⟩
      | false =>
        have HKT := Lib.hid (show keepP e f t x from Classical.byContradiction fun h => by have := HB3.out; rw [dec_t h] at this; cases this)
        have HS2 := Lib.hid (show memA z e f t (T.take (k + 1)) = memA z e f t (T.take k) ++ memF z x e.long f t by rw [HSN.out, if_pos (dec_t HKT.out)])
        have hml : M.length ≤ 1000000 := by
          have h1 := HMk.out.2.length_eq
          have h2 := memA_len z e f t (T.take k)
          rw [List.length_take] at h2; omega
        have C := Lib.hid (CMEM.out x e.long u7 M wc HRk.out.bel hx0 hx1 (by omega) hl2 HRk.out.o7 (by have := HRk.out.xs.lt; omega) HRk.out.n7 HMk.out.1 hml)
        clear hml
        go_wp2_with fail
        (with_reducible refine C.out.mono ?_)
        rintro q w3 ⟨v', M', rfl, hp, hs', hv', ho', hb'⟩
        have HR4 := Lib.hid (HRk.out.new7 hb' ho' hv')
        have HM4 := Lib.hid (show M'.Pairwise spLe ∧ M'.Perm (memA z e f t (T.take (k + 1))) from ⟨hs', perm_step hp HMk.out.2 HS2.out⟩)
        clear hp hs' hv' ho' hb'
        go_wp2_with fail
        go_roundw
        case measure => simp [intOf]; omega
        case rel => exact ⟨k + 1, M', by omega, by go_num, HR4, HM4⟩
    · obtain rfl : n8 = k := by omega
      have HMA := Lib.hid (show M.Pairwise spLe ∧ M.Perm (memA z e f t T ++ memC z e f t (e.changes.take 0)) by
        have h := HMk.out
        rw [HN8.out, List.take_length] at h
        rw [List.take_zero, show memC z e f t [] = [] from rfl, List.append_nil]; exact h)
      have HAL := Lib.hid (show (memA z e f t T).length ≤ 111000 from Nat.le_trans (memA_len ..) (by rw [← HN8.out]; exact hnT))
      clear HMk hlt
      go_wp2_with fail
      go_loopw [7, 176] (fun v7 i wr => ∃ (k : Nat) (M : List (Int × Int)), k ≤ nc ∧ i = .int .i64 (k : Nat) ∧ Hid (RM #[.int .i64 z.base, .slice oz nz cz] A #[.int .i64 f, .int .i64 t] v7 (.slice o8 n8 c8) M T w wr) ∧ Hid (M.Pairwise spLe ∧ M.Perm (memA z e f t T ++ memC z e f t (e.changes.take k)))) (fun _ i _ => nc - (intOf i).toNat)
      case atStart => exact ⟨0, M, Nat.zero_le _, rfl, HRk, HMA⟩
      case round =>
        clear HRk HMA kZ kS kE
        obtain ⟨k, M, hk, rfl, HRk, HMk⟩ := hrel
        obtain ⟨wl, rfl⟩ : ∃ x, x = wr := ⟨_, rfl⟩
        have kE := HRk.out.xe.cell
        by_cases hlt : k < nc
        · have hlt' : (k : Int) < (nc : Int) := by omega
          obtain ⟨x, b1, cs1, hx, rfl, q1, ⟨rfl, wfx, _, _⟩, q0, q2⟩ := RC.out.elem HRk.out.bel k hlt
          have e0 := q0 (by decide)
          have e1 := q2 1 (by decide) (by decide)
          have e2 := q2 2 (by decide) (by decide)
          simp only [List.getElem?_cons_zero, List.getElem?_cons_succ] at e0 e1 e2
          have HX := Lib.hid hx
          clear q0 q1 q2 hx wfx
          have CA1 := Lib.hid (fun W hb => CA.out x.at_ W hb)
          go_upto_region 33 with fail
          refine wp_region_held_drew (S := (fun W' => BxM (w.heap.size + 1) A 32 W' ∧ W'.cell? (b1.add (k * 3)) = some (.int .i64 x.at_) ∧ ∀ j, W'.cell? ⟨w.heap.size + 1, j, none⟩ = A[j]?)) (by kernel_rfl) (And.intro HRk.out.xe.drew (And.intro e0 HRk.out.xe.drew.cell)) (fun hHeld => ?_)
          simp only [List.size_toArray, List.length_cons, List.length_nil, Nat.reduceAdd, Array.replicate_succ, Array.replicate_zero, List.push_toArray, List.nil_append, List.cons_append]
          refine wpAnyH_take (i := 0) (oi := ⟨some 179, _, _, _, _, _⟩) (v := .agg A) rfl (by kernel_rfl) (by kernel_rfl) (by kernel_rfl) (fun _ _ _ h => h) (Or.inl ⟨by kernel_rfl, ?_⟩) (by assumption) ?_
          · intro w hSw; exact exec_ld _ 32 (.tmp 4) rfl _ _ rfl 32 A (0, 0) _ hSw.1.heap Tryz.underlying32 rfl HSZ.out
          try simp only [Act.put, List.setIfInBounds_toArray, List.set_cons_zero, List.set_cons_succ]
          refine wpAnyH_take (i := 1) (oi := ⟨some 180, _, _, _, _, _⟩) (v := ?_) rfl (by kernel_rfl) (by kernel_rfl) (by kernel_rfl) (fun _ _ _ h => h) (Or.inl ⟨by kernel_rfl, ?_⟩) (by assumption) ?_
          rotate_left
          · intro w hSw; (try dsimp only at hSw); go_simp; try with_reducible rfl
          try simp only [Act.put, List.setIfInBounds_toArray, List.set_cons_zero, List.set_cons_succ]
          refine wpAnyH_take (i := 2) (oi := ⟨some 181, _, _, _, _, _⟩) (v := ?_) rfl (by kernel_rfl) (by kernel_rfl) (by kernel_rfl) (fun _ _ _ h => h) (Or.inl ⟨by kernel_rfl, ?_⟩) (by assumption) ?_
          rotate_left
          · intro w hSw; (try dsimp only at hSw); go_simp; try with_reducible rfl
          try simp only [Act.put, List.setIfInBounds_toArray, List.set_cons_zero, List.set_cons_succ]
          refine wpAnyH_take (i := 3) (oi := ⟨some 182, _, _, _, _, _⟩) (v := ?_) rfl (by kernel_rfl) (by kernel_rfl) (by kernel_rfl) (fun _ _ _ h => h) (Or.inl ⟨by kernel_rfl, ?_⟩) (by assumption) ?_
          rotate_left
          · intro w hSw; (try dsimp only at hSw); go_simp; try with_reducible rfl
          try simp only [Act.put, List.setIfInBounds_toArray, List.set_cons_zero, List.set_cons_succ]
          refine wpAnyH_take (i := 4) (oi := ⟨some 183, _, _, _, _, _⟩) (v := ?_) rfl (by kernel_rfl) (by kernel_rfl) (by kernel_rfl) (fun _ _ _ h => h) (Or.inl ⟨by kernel_rfl, ?_⟩) (by assumption) ?_
          rotate_left
          · intro w hSw; (try dsimp only at hSw); go_simp; try with_reducible rfl
          try simp only [Act.put, List.setIfInBounds_toArray, List.set_cons_zero, List.set_cons_succ]
          refine wpAnyH_take (i := 5) (oi := ⟨some 184, _, _, _, _, _⟩) (v := ?_) rfl (by kernel_rfl) (by kernel_rfl) (by kernel_rfl) (fun _ _ _ h => h) (Or.inl ⟨by kernel_rfl, ?_⟩) (by assumption) ?_
          rotate_left
          · intro w hSw; (try dsimp only at hSw); go_simp; try with_reducible rfl
          try simp only [Act.put, List.setIfInBounds_toArray, List.set_cons_zero, List.set_cons_succ]
          refine wpAnyH_take (i := 6) (oi := ⟨some 185, _, _, _, _, _⟩) (v := ?_) rfl (by kernel_rfl) (by kernel_rfl) (by kernel_rfl) (fun _ _ _ h => h) (Or.inl ⟨by kernel_rfl, ?_⟩) (by assumption) ?_
          rotate_left
          · intro w hSw; (try dsimp only at hSw); go_simp; try with_reducible rfl
          try simp only [Act.put, List.setIfInBounds_toArray, List.set_cons_zero, List.set_cons_succ]
          refine wpAnyH_ready (rs := [7]) (by kernel_rfl) (by simp) ?_
          refine AllReadyH.cons rfl (fun K hK => ?_) AllReadyH.nil
          have HK := Lib.hid hK
          go_simp
          (with_reducible refine (CA1.out _ (HRk.out.below (Below.refl _ _).drew).bel).mono ?_); rintro q w5 ⟨rfl, hb5⟩; have HB5 := Lib.hid (show Below wl.heap.size wl w5 from (Below.refl wl.heap.size wl).drew.trans hb5); have hS5 := (show (fun W' => BxM (w.heap.size + 1) A 32 W' ∧ W'.cell? (b1.add (k * 3)) = some (.int .i64 x.at_) ∧ ∀ j, W'.cell? ⟨w.heap.size + 1, j, none⟩ = A[j]?) w5 from And.intro (HRk.out.xe.below HB5.out) (And.intro (by rw [HB5.out.cell (World.block_lt_of_cell? _ _ e0)]; exact e0) (HRk.out.xe.below HB5.out).cell)); clear hb5
          go_simp
          refine HK.out _ _ hS5 (fun hHeld => ?_)
          clear HK hK K
          try simp only [Act.put, List.setIfInBounds_toArray, List.set_cons_zero, List.set_cons_succ]
          refine wpAnyH_done (by kernel_rfl) ?_ _
          skip
          have HR5 := Lib.hid (HRk.out.below HB5.out)
          have HS := Lib.hid (show memC z e f t (e.changes.take (k + 1)) = memC z e f t (e.changes.take k) ++ if dec (atE e x.at_) = true then memF z x.start x.long f t else [] by
            rw [List.take_add_one, HX.out]; exact memC_snoc ..)
          rw [← HB5.out.cell (p := ⟨(b1.add (k * 3)).block, (b1.add (k * 3)).off + 1, none⟩) (World.block_lt_of_cell? _ _ e1)] at e1
          rw [← HB5.out.cell (p := ⟨(b1.add (k * 3)).block, (b1.add (k * 3)).off + 2, none⟩) (World.block_lt_of_cell? _ _ e2)] at e2
          obtain ⟨b, hbq⟩ : ∃ b, b = dec (atE e x.at_) := ⟨_, rfl⟩
          rw [← hbq] at HS ⊢
          clear hbq kE e0
          cases b with
          | false =>
            have HS2 := Lib.hid (show memC z e f t (e.changes.take (k + 1)) = memC z e f t (e.changes.take k) by rw [HS.out, if_neg (by decide), List.append_nil])
            go_wp2_with fail
            go_roundw
            case measure => simp [intOf]; omega
            case rel => exact ⟨k + 1, M, by omega, by go_num, HR5, Lib.hid (by rw [HS2.out]; exact HMk.out)⟩
          | true =>
            have HS2 := Lib.hid (show memC z e f t (e.changes.take (k + 1)) = memC z e f t (e.changes.take k) ++ memF z x.start x.long f t by rw [HS.out, if_pos rfl])
            have hch : startOk x.start ∧ 0 ≤ x.long ∧ x.long ≤ 10080 := by
              have hxm := List.mem_of_getElem? HX.out
              cases ha : e.again with
              | true => exact (HM.out.2.2.2.2 ha).2.2.2.2.1 x hxm
              | false => have := (HM.out.2.2.2.1 ha).2.2.2; rw [List.eq_nil_of_length_eq_zero this] at hxm; cases hxm
            have hml : M.length ≤ 1000000 := by
              have h1 := HMk.out.2.length_eq
              have h2 := memC_len z e f t (e.changes.take k)
              rw [List.length_append] at h1
              rw [List.length_take] at h2; have := HAL.out; omega
            have HRd := Lib.hid (HR5.out.below (Below.refl _ _).drew)
            have C := Lib.hid (CMEM.out x.start x.long u7 M w5.drew HRd.out.bel hch.1.1 hch.1.2 hch.2.1 hch.2.2 HRd.out.o7 (by have := HRd.out.xs.lt; omega) HRd.out.n7 HMk.out.1 hml)
            clear hml hch
            go_upto_region 34 with fail
            refine wp_region_held_drew (S := (fun W' => (∀ j, W'.cell? ⟨w.heap.size, j, none⟩ = (#[.int .i64 z.base, .slice oz nz cz] : Array Value)[j]?) ∧ (∀ j, W'.cell? ⟨w.heap.size + 2, j, none⟩ = (#[.int .i64 f, .int .i64 t] : Array Value)[j]?) ∧ (∀ j, W'.cell? ⟨w.heap.size + 1, j, none⟩ = A[j]?) ∧ W'.cell? ⟨(b1.add (k * 3)).block, (b1.add (k * 3)).off + 1, none⟩ = some (.int .i64 x.start) ∧ W'.cell? ⟨(b1.add (k * 3)).block, (b1.add (k * 3)).off + 2, none⟩ = some (.int .i64 x.long))) (by kernel_rfl) ⟨HRd.out.xz.cell, HRd.out.xs.cell, HRd.out.xe.cell, e1, e2⟩ (fun hHeld => ?_)
            simp only [List.size_toArray, List.length_cons, List.length_nil, Nat.reduceAdd, Array.replicate_succ, Array.replicate_zero, List.push_toArray, List.nil_append, List.cons_append]
            refine wpAnyH_take (i := 0) (oi := ⟨some 187, _, _, _, _, _⟩) (v := ?_) rfl (by kernel_rfl) (by kernel_rfl) (by kernel_rfl) (fun _ _ _ h => h) (Or.inl ⟨by kernel_rfl, ?_⟩) (by assumption) ?_
            rotate_left
            · intro w hSw; (try dsimp only at hSw); go_simp; try with_reducible rfl
            try simp only [Act.put, List.setIfInBounds_toArray, List.set_cons_zero, List.set_cons_succ]
            refine wpAnyH_take (i := 1) (oi := ⟨some 188, _, _, _, _, _⟩) (v := ?_) rfl (by kernel_rfl) (by kernel_rfl) (by kernel_rfl) (fun _ _ _ h => h) (Or.inl ⟨by kernel_rfl, ?_⟩) (by assumption) ?_
            rotate_left
            · intro w hSw; (try dsimp only at hSw); go_simp; try with_reducible rfl
            try simp only [Act.put, List.setIfInBounds_toArray, List.set_cons_zero, List.set_cons_succ]
            refine wpAnyH_take (i := 2) (oi := ⟨some 189, _, _, _, _, _⟩) (v := ?_) rfl (by kernel_rfl) (by kernel_rfl) (by kernel_rfl) (fun _ _ _ h => h) (Or.inl ⟨by kernel_rfl, ?_⟩) (by assumption) ?_
            rotate_left
            · intro w hSw; (try dsimp only at hSw); go_simp; try with_reducible rfl
            try simp only [Act.put, List.setIfInBounds_toArray, List.set_cons_zero, List.set_cons_succ]
            refine wpAnyH_take (i := 3) (oi := ⟨some 190, _, _, _, _, _⟩) (v := ?_) rfl (by kernel_rfl) (by kernel_rfl) (by kernel_rfl) (fun _ _ _ h => h) (Or.inl ⟨by kernel_rfl, ?_⟩) (by assumption) ?_
            rotate_left
            · intro w hSw; (try dsimp only at hSw); go_simp; try with_reducible rfl
            try simp only [Act.put, List.setIfInBounds_toArray, List.set_cons_zero, List.set_cons_succ]
            refine wpAnyH_take (i := 4) (oi := ⟨some 191, _, _, _, _, _⟩) (v := ?_) rfl (by kernel_rfl) (by kernel_rfl) (by kernel_rfl) (fun _ _ _ h => h) (Or.inl ⟨by kernel_rfl, ?_⟩) (by assumption) ?_
            rotate_left
            · intro w hSw; (try dsimp only at hSw); go_simp; try with_reducible rfl
            try simp only [Act.put, List.setIfInBounds_toArray, List.set_cons_zero, List.set_cons_succ]
            refine wpAnyH_take (i := 5) (oi := ⟨some 192, _, _, _, _, _⟩) (v := ?_) rfl (by kernel_rfl) (by kernel_rfl) (by kernel_rfl) (fun _ _ _ h => h) (Or.inl ⟨by kernel_rfl, ?_⟩) (by assumption) ?_
            rotate_left
            · intro w hSw; (try dsimp only at hSw); go_simp; try with_reducible rfl
            try simp only [Act.put, List.setIfInBounds_toArray, List.set_cons_zero, List.set_cons_succ]
            refine wpAnyH_take (i := 6) (oi := ⟨some 193, _, _, _, _, _⟩) (v := ?_) rfl (by kernel_rfl) (by kernel_rfl) (by kernel_rfl) (fun _ _ _ h => h) (Or.inl ⟨by kernel_rfl, ?_⟩) (by assumption) ?_
            rotate_left
            · intro w hSw; (try dsimp only at hSw); go_simp; try with_reducible rfl
            try simp only [Act.put, List.setIfInBounds_toArray, List.set_cons_zero, List.set_cons_succ]
            refine wpAnyH_take (i := 7) (oi := ⟨some 194, _, _, _, _, _⟩) (v := ?_) rfl (by kernel_rfl) (by kernel_rfl) (by kernel_rfl) (fun _ _ _ h => h) (Or.inl ⟨by kernel_rfl, ?_⟩) (by assumption) ?_
            rotate_left
            · intro w hSw; (try dsimp only at hSw); go_simp; try with_reducible rfl
            try simp only [Act.put, List.setIfInBounds_toArray, List.set_cons_zero, List.set_cons_succ]
            refine wpAnyH_take (i := 8) (oi := ⟨some 195, _, _, _, _, _⟩) (v := ?_) rfl (by kernel_rfl) (by kernel_rfl) (by kernel_rfl) (fun _ _ _ h => h) (Or.inl ⟨by kernel_rfl, ?_⟩) (by assumption) ?_
            rotate_left
            · intro w hSw; (try dsimp only at hSw); go_simp; try with_reducible rfl
            try simp only [Act.put, List.setIfInBounds_toArray, List.set_cons_zero, List.set_cons_succ]
            refine wpAnyH_take (i := 9) (oi := ⟨some 196, _, _, _, _, _⟩) (v := ?_) rfl (by kernel_rfl) (by kernel_rfl) (by kernel_rfl) (fun _ _ _ h => h) (Or.inl ⟨by kernel_rfl, ?_⟩) (by assumption) ?_
            rotate_left
            · intro w hSw; (try dsimp only at hSw); go_simp; try with_reducible rfl
            try simp only [Act.put, List.setIfInBounds_toArray, List.set_cons_zero, List.set_cons_succ]
            refine wpAnyH_take (i := 10) (oi := ⟨some 197, _, _, _, _, _⟩) (v := ?_) rfl (by kernel_rfl) (by kernel_rfl) (by kernel_rfl) (fun _ _ _ h => h) (Or.inl ⟨by kernel_rfl, ?_⟩) (by assumption) ?_
            rotate_left
            · intro w hSw; (try dsimp only at hSw); go_simp; try with_reducible rfl
            try simp only [Act.put, List.setIfInBounds_toArray, List.set_cons_zero, List.set_cons_succ]
            refine wpAnyH_take (i := 11) (oi := ⟨some 198, _, _, _, _, _⟩) (v := ?_) rfl (by kernel_rfl) (by kernel_rfl) (by kernel_rfl) (fun _ _ _ h => h) (Or.inl ⟨by kernel_rfl, ?_⟩) (by assumption) ?_
            rotate_left
            · intro w hSw; (try dsimp only at hSw); go_simp; try with_reducible rfl
            try simp only [Act.put, List.setIfInBounds_toArray, List.set_cons_zero, List.set_cons_succ]
            refine wpAnyH_take (i := 12) (oi := ⟨some 199, _, _, _, _, _⟩) (v := ?_) rfl (by kernel_rfl) (by kernel_rfl) (by kernel_rfl) (fun _ _ _ h => h) (Or.inl ⟨by kernel_rfl, ?_⟩) (by assumption) ?_
            rotate_left
            · intro w hSw; (try dsimp only at hSw); go_simp; try with_reducible rfl
            try simp only [Act.put, List.setIfInBounds_toArray, List.set_cons_zero, List.set_cons_succ]
            refine wpAnyH_take (i := 13) (oi := ⟨some 200, _, _, _, _, _⟩) (v := ?_) rfl (by kernel_rfl) (by kernel_rfl) (by kernel_rfl) (fun _ _ _ h => h) (Or.inl ⟨by kernel_rfl, ?_⟩) (by assumption) ?_
            rotate_left
            · intro w hSw; (try dsimp only at hSw); go_simp; try with_reducible rfl
            try simp only [Act.put, List.setIfInBounds_toArray, List.set_cons_zero, List.set_cons_succ]
            refine wpAnyH_take (i := 14) (oi := ⟨some 201, _, _, _, _, _⟩) (v := ?_) rfl (by kernel_rfl) (by kernel_rfl) (by kernel_rfl) (fun _ _ _ h => h) (Or.inl ⟨by kernel_rfl, ?_⟩) (by assumption) ?_
            rotate_left
            · intro w hSw; (try dsimp only at hSw); go_simp; try with_reducible rfl
            try simp only [Act.put, List.setIfInBounds_toArray, List.set_cons_zero, List.set_cons_succ]
            refine wpAnyH_ready (rs := [15]) (by kernel_rfl) (by simp) ?_
            refine AllReadyH.cons rfl (fun K hK => ?_) AllReadyH.nil
            have HK := Lib.hid hK
            go_simp
            (with_reducible refine C.out.mono ?_); rintro q w6 ⟨v', M', rfl, hp, hs', hv', ho', hb'⟩; have HR6 := Lib.hid (HRd.out.new7 hb' ho' hv'); have HM6 := Lib.hid (show M'.Pairwise spLe ∧ M'.Perm (memA z e f t T ++ memC z e f t (e.changes.take (k + 1))) from ⟨hs', perm_step hp HMk.out.2 (by rw [HS2.out, List.append_assoc])⟩); have HB6 := Lib.hid (show Below w5.heap.size w5 w6 from (Below.refl w5.heap.size w5).drew.trans hb'); have hS6 := (show (fun W' => (∀ j, W'.cell? ⟨w.heap.size, j, none⟩ = (#[.int .i64 z.base, .slice oz nz cz] : Array Value)[j]?) ∧ (∀ j, W'.cell? ⟨w.heap.size + 2, j, none⟩ = (#[.int .i64 f, .int .i64 t] : Array Value)[j]?) ∧ (∀ j, W'.cell? ⟨w.heap.size + 1, j, none⟩ = A[j]?) ∧ W'.cell? ⟨(b1.add (k * 3)).block, (b1.add (k * 3)).off + 1, none⟩ = some (.int .i64 x.start) ∧ W'.cell? ⟨(b1.add (k * 3)).block, (b1.add (k * 3)).off + 2, none⟩ = some (.int .i64 x.long)) w6 from ⟨HR6.out.xz.cell, HR6.out.xs.cell, HR6.out.xe.cell, (by rw [HB6.out.cell (World.block_lt_of_cell? _ _ e1)]; exact e1), (by rw [HB6.out.cell (World.block_lt_of_cell? _ _ e2)]; exact e2)⟩); clear hp hs' hv' ho' hb'
            go_simp
            refine HK.out _ _ hS6 (fun hHeld => ?_)
            clear HK hK K
            try simp only [Act.put, List.setIfInBounds_toArray, List.set_cons_zero, List.set_cons_succ]
            refine wpAnyH_take (i := 16) (oi := ⟨some 7, _, _, _, _, _⟩) (v := ?_) rfl (by kernel_rfl) (by kernel_rfl) (by kernel_rfl) (fun _ _ _ h => h) (Or.inl ⟨by kernel_rfl, ?_⟩) (by assumption) ?_
            rotate_left
            · intro w hSw; (try dsimp only at hSw); go_simp; try with_reducible rfl
            try simp only [Act.put, List.setIfInBounds_toArray, List.set_cons_zero, List.set_cons_succ]
            refine wpAnyH_done (by kernel_rfl) ?_ _
            skip
            go_wp2_with fail
            go_roundw
            case measure => simp [intOf]; omega
            case rel => exact ⟨k + 1, M', by omega, by go_num, HR6, HM6⟩
        · obtain rfl : nc = k := by omega
          have HF := Lib.hid (show RefMem z e f t M from refMem_of HOK.out.1 HOK.out.2 HT.out (by
            have h := HMk.out.2
            rw [← L3.out, List.take_length] at h; exact h))
          go_wp2_with fail
          go_ret
          exact ⟨_, M, rfl, own_base HRk.out.o7 (by omega), HMk.out.1, HF.out, HRk.out.bel⟩

end Go.Proofs.YtechgcjdigpglaaGreat
