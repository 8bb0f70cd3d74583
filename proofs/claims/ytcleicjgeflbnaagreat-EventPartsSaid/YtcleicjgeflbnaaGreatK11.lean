/- recur.walk, first, from. Conditions: the rule reads, its rows are not too long. -/
import Derived.Test.YtcleicjgeflbnaaGreatK10
import Derived.MapFrom
namespace Go.Proofs.YtcleicjgeflbnaaGreat
open Go.RowKit Go.ChangeShapes Go.WideShapes Go.Deep
set_option linter.all false

set_option maxHeartbeats 8000000 in
set_option maxRecDepth 100000 in
theorem walk_yes (cs : List Value) (r : RuleD) (start : Int) (w : World) (h : rRule w cs r) (hf : fewR r) (hr : mayR r) (hs : startOk start) :
    Calls Tryz.prog 73 #[.agg cs.toArray, .int .i64 start] w fun e w' => ∃ b, e = .returned (.tuple #[.pointer (some ⟨b, 0, none⟩), .bool true]) ∧ w.heap.size ≤ b ∧ Wk r (start / 1440) (start % 1440) b w' ∧ Below w.heap.size w w' := by
  have SR := Lib.hid h
  obtain ⟨m, d, y, p, rfl, -, -, -, -, -, hm, hd, hy, hp⟩ := h
  obtain ⟨om, nm, cm, rfl, lm, -, -, RM⟩ := hm.open
  obtain ⟨od, nd, cd, rfl, ld, -, -, RD⟩ := hd.open
  obtain ⟨oy, ny, cy, rfl, ly, -, -, RY⟩ := hy.open
  obtain ⟨op, np, cp, rfl, lp, -, -, RP⟩ := hp.open
  have M0 := Lib.hid (fun (W : World) (hb : Below w.heap.size w W) => may_any _ r W (SR.out.later hb) hf)
  have X0 := Lib.hid (BxAt.new w #[.int .i64 r.freq, .int .i64 r.interval, .int .i64 r.count, .int .i64 r.until_, .slice om nm cm, .slice od nd cd, .slice oy ny cy, .slice op np cp, .int .i64 r.start] 28)
  have H0 := Lib.hid (show Below w.heap.size w (w.alloc (.cells #[.int .i64 r.freq, .int .i64 r.interval, .int .i64 r.count, .int .i64 r.until_, .slice om nm cm, .slice od nd cd, .slice oy ny cy, .slice op np cp, .int .i64 r.start] 28)) from belowA _ (Below.refl _ _))
  have M1 := Lib.hid (fun W hb => c_t (M0.out W hb) hr)
  obtain ⟨s0, s1⟩ := hs
  have DT := Lib.hid (fun W => date_yes (start / 1440) (by omega) (by omega) W)
  have HRows := Lib.hid (And.intro RM (And.intro RD (And.intro RY RP)))
  clear hm hd hy hp RM RD RY RP lm ld ly lp hf hr M0
  go_enter Tryz.func73, Tryz.ntmps73
  go_wp2_with (first | (go_at_call 22; ((with_reducible refine (M1.out _ H0.out).mono ?_); rintro e w1 ⟨rfl, hb1⟩; have X1 := Lib.hid (X0.out.below hb1); have kA1 := X1.out.cell; have hz1 : w.heap.size < w1.heap.size := X1.out.lt; have H1 := Lib.hid (H0.out.trans (hb1.mono H0.out.size)); clear hb1)) | (go_at_call 101; ((with_reducible refine (DT.out _).mono ?_); rintro e w2 ⟨rfl, hb2⟩; have X2 := Lib.hid (X1.out.below hb2); have kA2 := X2.out.cell; have hz2 : w.heap.size < w2.heap.size := X2.out.lt; have H2 := Lib.hid (H1.out.trans (hb2.mono H1.out.size)); clear hb2)))
  go_ret2
  have X3 := Lib.hid (BxAt.new (w2.alloc (.cells #[.int .i64 (dateY (start / 1440)), .int .i64 (dateM (start / 1440)), .int .i64 (dD (start / 1440))] 87)) #[.int .i64 r.freq, .int .i64 r.interval, .int .i64 r.count, .int .i64 r.until_, .slice om nm cm, .slice od nd cd, .slice oy ny cy, .slice op np cp, .int .i64 r.start, .int .i64 (start / 1440), .int .i64 (dateY (start / 1440)), .int .i64 (dateM (start / 1440)), .int .i64 (dD (start / 1440)), .int .i64 (start % 1440)] 135)
  have B3 := Lib.hid ((H2.out.alloc H2.out.size (.cells #[.int .i64 (dateY (start / 1440)), .int .i64 (dateM (start / 1440)), .int .i64 (dD (start / 1440))] 87)).alloc (by have := H2.out.size; simp <;> omega) (.cells #[.int .i64 r.freq, .int .i64 r.interval, .int .i64 r.count, .int .i64 r.until_, .slice om nm cm, .slice od nd cd, .slice oy ny cy, .slice op np cp, .int .i64 r.start, .int .i64 (start / 1440), .int .i64 (dateY (start / 1440)), .int .i64 (dateM (start / 1440)), .int .i64 (dD (start / 1440)), .int .i64 (start % 1440)] 135))
  refine ⟨w2.heap.size + 1, rfl, by have := H2.out.size; omega, ⟨om, nm, cm, od, nd, cd, oy, ny, cy, op, np, cp, by have h := X3.out; rwa [World.size_alloc] at h, HRows.out.1.later' B3.out, HRows.out.2.1.later' B3.out, HRows.out.2.2.1.later' B3.out, HRows.out.2.2.2.later' B3.out⟩, B3.out⟩

set_option maxHeartbeats 8000000 in
set_option maxRecDepth 100000 in
theorem walk_no (cs : List Value) (r : RuleD) (start : Int) (w : World) (h : rRule w cs r) (hf : fewR r) (hno : ¬ (mayR r ∧ startOk start)) :
    Calls Tryz.prog 73 #[.agg cs.toArray, .int .i64 start] w fun e w' => e = .returned (.tuple #[.pointer none, .bool false]) ∧ Below w.heap.size w w' := by
  have SR := Lib.hid h
  obtain ⟨m, d, y, p, rfl, -, -, -, -, -, hm, hd, hy, hp⟩ := h
  obtain ⟨om, nm, cm, rfl, lm, -, -, RM⟩ := hm.open
  obtain ⟨od, nd, cd, rfl, ld, -, -, RD⟩ := hd.open
  obtain ⟨oy, ny, cy, rfl, ly, -, -, RY⟩ := hy.open
  obtain ⟨op, np, cp, rfl, lp, -, -, RP⟩ := hp.open
  have M0 := Lib.hid (fun (W : World) (hb : Below w.heap.size w W) => may_any _ r W (SR.out.later hb) hf)
  have X0 := Lib.hid (BxAt.new w #[.int .i64 r.freq, .int .i64 r.interval, .int .i64 r.count, .int .i64 r.until_, .slice om nm cm, .slice od nd cd, .slice oy ny cy, .slice op np cp, .int .i64 r.start] 28)
  have H0 := Lib.hid (show Below w.heap.size w (w.alloc (.cells #[.int .i64 r.freq, .int .i64 r.interval, .int .i64 r.count, .int .i64 r.until_, .slice om nm cm, .slice od nd cd, .slice oy ny cy, .slice op np cp, .int .i64 r.start] 28)) from belowA _ (Below.refl _ _))
  clear hm hd hy hp RM RD RY RP lm ld ly lp hf
  by_cases hr : mayR r
  · have M1 := Lib.hid (fun W hb => c_t (M0.out W hb) hr)
    have hs : ¬ startOk start := fun h => hno ⟨hr, h⟩
    unfold startOk at hs
    by_cases h1 : start < 0
    · have d1 := decide_eq_true h1
      clear hno hs hr M0
      go_enter Tryz.func73, Tryz.ntmps73
      go_wp2_with (first | (go_at_call 22; ((with_reducible refine (M1.out _ H0.out).mono ?_); rintro e w1 ⟨rfl, hb1⟩; have X1 := Lib.hid (X0.out.below hb1); have kA1 := X1.out.cell; have hz1 : w.heap.size < w1.heap.size := X1.out.lt; have H1 := Lib.hid (H0.out.trans (hb1.mono H0.out.size)); clear hb1)))
      go_ret2
      exact ⟨rfl, H1.out⟩
    · have d1 := decide_eq_false h1
      have h2 : (158310720 : Int) ≤ start := by omega
      have d2 := decide_eq_true h2
      clear hno hs hr M0
      go_enter Tryz.func73, Tryz.ntmps73
      go_wp2_with (first | (go_at_call 22; ((with_reducible refine (M1.out _ H0.out).mono ?_); rintro e w1 ⟨rfl, hb1⟩; have X1 := Lib.hid (X0.out.below hb1); have kA1 := X1.out.cell; have hz1 : w.heap.size < w1.heap.size := X1.out.lt; have H1 := Lib.hid (H0.out.trans (hb1.mono H0.out.size)); clear hb1)))
      go_ret2
      exact ⟨rfl, H1.out⟩
  · have M1 := Lib.hid (fun W hb => c_f (M0.out W hb) hr)
    clear hno hr M0
    go_enter Tryz.func73, Tryz.ntmps73
    go_wp2_with (first | (go_at_call 22; ((with_reducible refine (M1.out _ H0.out).mono ?_); rintro e w1 ⟨rfl, hb1⟩; have X1 := Lib.hid (X0.out.below hb1); have kA1 := X1.out.cell; have hz1 : w.heap.size < w1.heap.size := X1.out.lt; have H1 := Lib.hid (H0.out.trans (hb1.mono H0.out.size)); clear hb1)))
    go_ret2
    exact ⟨rfl, H1.out⟩

/-! ### first -/
/-- How long periods are. -/
def longs : List MapEntry := [⟨.int .i64 1, .int .i64 1, 0⟩, ⟨.int .i64 2, .int .i64 7, 1⟩, ⟨.int .i64 3, .int .i64 31, 2⟩, ⟨.int .i64 4, .int .i64 366, 3⟩]
theorem put_last (W0 : World) (o o' : Obj) : ({ W0.alloc o with heap := (W0.alloc o).heap.setIfInBounds W0.heap.size o' } : World) = W0.alloc o' := by
  have h : (W0.heap.push o).setIfInBounds W0.heap.size o' = W0.heap.push o' := by
    apply Array.ext'
    simp
  exact congrArg (fun h => ({ W0 with heap := h } : World)) h
theorem underInt : Tryz.prog.underlying 3 = some (.int .i64) := by kernel_rfl
theorem underMap : Tryz.prog.underlying 137 = some (.map 3 3) := by kernel_rfl
theorem run_putI (W : World) (b : Nat) (es : List MapEntry) (clock : Nat) (k : Int) (v : Value) (W0 : World) (hW : W = W0.alloc (.map es.toArray clock)) (hb : b = W0.heap.size)
    (h1 : Instr.findNow (.int .i64) (.int .i64 k) es 0 = some none) : (Instr.mapUpdate 137 (.map (some b)) (.int .i64 k) v).run Tryz.prog W = .ok () (W0.alloc (.map ((es ++ [⟨.int .i64 k, v, clock⟩] : List MapEntry).toArray) (clock + 1))) := by
  subst hW hb
  have hb : (W0.alloc (.map es.toArray clock)).heap[W0.heap.size]? = some (.map es.toArray clock) := heap_alloc_new _ _
  have hk : MapKept.IsKey (.int .i64) (.int .i64 k) := rfl
  simp [Instr.mapUpdate, run_underlying underMap, MapKept.run_getObj_map hb, MapKept.run_checkKey underInt hk, MapKept.run_findKey underInt h1, MapKept.run_setObj_map _ hb, Result.andThen]
  exact put_last W0 _ _
theorem run_lookI (W : World) (b : Nat) (es : List MapEntry) (clock : Nat) (k : Int) (i : Nat) (v : Value) (hb : W.heap[b]? = some (.map es.toArray clock))
    (h1 : Instr.findNow (.int .i64) (.int .i64 k) es 0 = some (some (i, v))) : (Instr.lookup 137 (.map (some b)) (.int .i64 k) false).run Tryz.prog W = .ok v W := by
  have hk : MapKept.IsKey (.int .i64) (.int .i64 k) := rfl
  simp [Instr.lookup, run_underlying underMap, MapKept.run_getObj_map hb, MapKept.run_checkKey underInt hk, MapKept.run_findKey underInt h1, Result.andThen]

set_option maxHeartbeats 8000000 in
set_option maxRecDepth 100000 in
theorem wfirst_any (r : RuleD) (s mi : Int) (b : Nat) (from_ : Int) (w : World) (hW : Wk r s mi b w) (hs0 : 0 ≤ s) (hs1 : s < 109938) (h0 : 0 ≤ from_) (h1 : from_ ≤ 158310720) (hr : mayR r) :
    Calls Tryz.prog 75 #[.pointer (some ⟨b, 0, none⟩), .int .i64 from_] w fun e w' => e = .returned (.int .i64 (firstF r s from_ : Nat)) ∧ Below w.heap.size w w' := by
  obtain ⟨om, nm, cm, od, nd, cd, oy, ny, cy, op, np, cp, hxx, h2, h3, h4, h5⟩ := hW.lies
  have kA := hxx.cell
  have hbw : b < w.heap.size := hxx.lt
  obtain ⟨hf, ⟨hi0, hi1⟩, -, -⟩ := hr.may
  obtain ⟨g, hg⟩ : ∃ g, g = from_ / 1440 - s := ⟨_, rfl⟩
  clear hW h2 h3 h4 h5 hxx hr
  by_cases hc : 0 < r.count
  · have HE := Lib.hid (show firstF r s from_ = 0 by unfold firstF; rw [if_pos (.inl hc)])
    have d1 := decide_eq_true hc
    clear hg
    go_enter Tryz.func75, Tryz.ntmps75
    go_wp2_with fail
    go_ret
    exact ⟨by rw [HE.out]; rfl, Below.refl _ _⟩
  have d1 := decide_eq_false hc
  by_cases hg0 : from_ / 1440 - s ≤ 0
  · have HE := Lib.hid (show firstF r s from_ = 0 by unfold firstF; rw [if_pos (.inr hg0)])
    have d2 := decide_eq_true hg0
    clear hg
    go_enter Tryz.func75, Tryz.ntmps75
    go_wp2_with fail
    go_ret
    exact ⟨by rw [HE.out]; rfl, Below.refl _ _⟩
  have d2 := decide_eq_false hg0
  have hL : 1 ≤ longF r ∧ longF r ≤ 366 := by unfold longF; split <;> (try split) <;> (try split) <;> omega
  obtain ⟨T, hT⟩ : ∃ T : Nat → Array MapEntry, T = fun i => ((longs).take i).toArray := ⟨_, rfl⟩
  have hmk : ∀ W : World, (Instr.makeMap 137 none).run Tryz.prog W = .ok (.map (some W.heap.size)) (W.alloc (.map (T 0) 0)) := fun W => by rw [hT]; rfl
  have p0 : (Instr.mapUpdate 137 (.map (some w.heap.size)) (.int .i64 1) (.int .i64 1)).run Tryz.prog (w.alloc (.map (T 0) 0)) = .ok () (w.alloc (.map (T 1) 1)) := by rw [hT]; exact run_putI _ _ (longs.take 0) 0 _ _ w rfl rfl (by rfl)
  have p1 : (Instr.mapUpdate 137 (.map (some w.heap.size)) (.int .i64 2) (.int .i64 7)).run Tryz.prog (w.alloc (.map (T 1) 1)) = .ok () (w.alloc (.map (T 2) 2)) := by rw [hT]; exact run_putI _ _ (longs.take 1) 1 _ _ w rfl rfl (by rfl)
  have p2 : (Instr.mapUpdate 137 (.map (some w.heap.size)) (.int .i64 3) (.int .i64 31)).run Tryz.prog (w.alloc (.map (T 2) 2)) = .ok () (w.alloc (.map (T 3) 3)) := by rw [hT]; exact run_putI _ _ (longs.take 2) 2 _ _ w rfl rfl (by rfl)
  have p3 : (Instr.mapUpdate 137 (.map (some w.heap.size)) (.int .i64 4) (.int .i64 366)).run Tryz.prog (w.alloc (.map (T 3) 3)) = .ok () (w.alloc (.map (T 4) 4)) := by rw [hT]; exact run_putI _ _ (longs.take 3) 3 _ _ w rfl rfl (by rfl)
  have p4 : (Instr.lookup 137 (.map (some w.heap.size)) (.int .i64 r.freq) false).run Tryz.prog (w.alloc (.map (T 4) 4)) = .ok (.int .i64 (longF r)) (w.alloc (.map (T 4) 4)) := by
    rw [hT]
    have hl : longs.take 4 = longs := rfl
    have h4 : r.freq = 1 ∨ r.freq = 2 ∨ r.freq = 3 ∨ r.freq = 4 := by omega
    rcases h4 with h | h | h | h
    · exact run_lookI _ _ longs 4 _ 0 _ (heap_alloc_new _ _) (by rw [h]; unfold longF; rw [h]; rfl)
    · exact run_lookI _ _ longs 4 _ 1 _ (heap_alloc_new _ _) (by rw [h]; unfold longF; rw [h]; rfl)
    · exact run_lookI _ _ longs 4 _ 2 _ (heap_alloc_new _ _) (by rw [h]; unfold longF; rw [h]; rfl)
    · exact run_lookI _ _ longs 4 _ 3 _ (heap_alloc_new _ _) (by rw [h]; unfold longF; rw [h]; rfl)
  obtain ⟨l, hl⟩ : ∃ l, l = longF r := ⟨_, rfl⟩
  rw [← hl] at p4 hL
  obtain ⟨L0, L1⟩ := hL
  have m1 : 1 ≤ l * r.interval := by have := Int.mul_le_mul L0 hi0 (by omega) (by omega); omega
  have m2 : l * r.interval ≤ 366000 := by have := Int.mul_le_mul L1 hi1 (by omega) (by omega); omega
  have q0 : 0 ≤ (from_ / 1440 - s) / (l * r.interval) := Int.ediv_nonneg (by omega) (by omega)
  have q1 : (from_ / 1440 - s) / (l * r.interval) ≤ 109938 := by
    have := Int.ediv_le_self (l * r.interval) (show 0 ≤ from_ / 1440 - s by omega)
    omega
  have HE := Lib.hid (show firstF r s from_ = ((from_ / 1440 - s) / (l * r.interval) - 1).toNat by unfold firstF; rw [if_neg (fun h => h.elim hc hg0), hl])
  have HB := Lib.hid (fun ob => show Below w.heap.size w (w.alloc ob) from belowA _ (Below.refl _ _))
  have hgp : 0 < from_ / 1440 - s := by omega
  clear hg hT hl hc hg0
  by_cases hz : (from_ / 1440 - s) / (l * r.interval) - 1 < 0
  all_goals
    go_enter Tryz.func75, Tryz.ntmps75
    go_wp2_with fail
    go_ret
    refine ⟨ret_i ?_, HB.out _⟩
    rw [HE.out]
    omega

/-- (*walker).from: the iterator. -/
theorem from_any2 (b : Nat) (k : Int) (w : World) :
    Calls Tryz.prog 74 #[.pointer (some ⟨b, 0, none⟩), .int .i64 k] w fun e w' => e = .returned (.func (.func 102) #[] #[.pointer (some ⟨w.heap.size, 0, none⟩), .pointer (some ⟨w.heap.size + 1, 0, none⟩)]) ∧ w' = (w.alloc (.cells #[.pointer (some ⟨b, 0, none⟩)] 103)).alloc (.cells #[.int .i64 k] 3) := by
  go_enter Tryz.func74, Tryz.ntmps74
  go_wp2_with fail
  go_ret
  exact ⟨rfl, rfl⟩
end Go.Proofs.YtcleicjgeflbnaaGreat
