/- recur.walk, first, from. Conditions: the rule reads, its rows are not too long. A range over an iterator that makes memory of its own, by a caller whose rounds may return: the rounds leave alone what the iterator made. Plain laws of the model; no condition. -/
import Derived.Test.YtechgcjdigpglaaGreatK10
import Derived.MapFrom
import Derived.RangeFuncKeeps
import Derived.RangeFuncLeaves
import Derived.OwnWalkIn
import Derived.TacticsInMore
import Derived.LoopNIn
import Derived.LoopIn
import Derived.RangeFuncRecord
namespace Go.Proofs.YtechgcjdigpglaaGreat
open Go.RowKit Go.ChangeShapes Go.WideShapes Go.Deep
set_option linter.all false

set_option maxHeartbeats 8000000 in
set_option maxRecDepth 100000 in
theorem walk_yes (cs : List Value) (r : RuleD) (start : Int) (w : World) (h : rRule w cs r) (hf : fewR r) (hr : mayR r) (hs : startOk start) :
    Calls Tryz.prog 128 #[.agg cs.toArray, .int .i64 start] w fun e w' => ∃ b, e = .returned (.tuple #[.pointer (some ⟨b, 0, none⟩), .bool true]) ∧ w.heap.size ≤ b ∧ Wk r (start / 1440) (start % 1440) b w' ∧ Below w.heap.size w w' := by
  have SR := Lib.hid h
  obtain ⟨m, d, y, p, rfl, -, -, -, -, -, hm, hd, hy, hp⟩ := h
  obtain ⟨om, nm, cm, rfl, lm, -, -, RM⟩ := hm.open
  obtain ⟨od, nd, cd, rfl, ld, -, -, RD⟩ := hd.open
  obtain ⟨oy, ny, cy, rfl, ly, -, -, RY⟩ := hy.open
  obtain ⟨op, np, cp, rfl, lp, -, -, RP⟩ := hp.open
  have M0 := Lib.hid (fun (W : World) (hb : Below w.heap.size w W) => may_any _ r W (SR.out.later hb) hf)
  have X0 := Lib.hid (BxAt.new w #[.int .i64 r.freq, .int .i64 r.interval, .int .i64 r.count, .int .i64 r.until_, .slice om nm cm, .slice od nd cd, .slice oy ny cy, .slice op np cp, .int .i64 r.start] 28)
  have H0 := Lib.hid (show Below w.heap.size w (w.alloc (.cells #[.int .i64 r.freq, .int .i64 r.interval, .int .i64 r.count, .int .i64 r.until_, .slice om nm cm, .slice od nd cd, .slice oy ny cy, .slice op np cp, .int .i64 r.start] 28)) from belowA _ (Below.refl _ _))
  have M1 := Lib.hid (fun W hb => c_t (M0.out W hb) hr)
  obtain ⟨s0, s1⟩ := hs
  have DT := Lib.hid (fun W => date_yes (start / 1440) (by omega) (by omega) W)
  have HRows := Lib.hid (And.intro RM (And.intro RD (And.intro RY RP)))
  clear hm hd hy hp RM RD RY RP lm ld ly lp hf hr M0
  go_enter Tryz.func128, Tryz.ntmps128
  go_wp2_with (first | (go_at_call 43; ((with_reducible refine (M1.out _ H0.out).mono ?_); rintro e w1 ⟨rfl, hb1⟩; have X1 := Lib.hid (X0.out.below hb1); have kA1 := X1.out.cell; have hz1 : w.heap.size < w1.heap.size := X1.out.lt; have H1 := Lib.hid (H0.out.trans (hb1.mono H0.out.size)); clear hb1)) | (go_at_call 173; ((with_reducible refine (DT.out _).mono ?_); rintro e w2 ⟨rfl, hb2⟩; have X2 := Lib.hid (X1.out.below hb2); have kA2 := X2.out.cell; have hz2 : w.heap.size < w2.heap.size := X2.out.lt; have H2 := Lib.hid (H1.out.trans (hb2.mono H1.out.size)); clear hb2)))
  go_ret2
  have X3 := Lib.hid (BxAt.new (w2.alloc (.cells #[.int .i64 (dateY (start / 1440)), .int .i64 (dateM (start / 1440)), .int .i64 (dD (start / 1440))] 131)) #[.int .i64 r.freq, .int .i64 r.interval, .int .i64 r.count, .int .i64 r.until_, .slice om nm cm, .slice od nd cd, .slice oy ny cy, .slice op np cp, .int .i64 r.start, .int .i64 (start / 1440), .int .i64 (dateY (start / 1440)), .int .i64 (dateM (start / 1440)), .int .i64 (dD (start / 1440)), .int .i64 (start % 1440)] 200)
  have B3 := Lib.hid ((H2.out.alloc H2.out.size (.cells #[.int .i64 (dateY (start / 1440)), .int .i64 (dateM (start / 1440)), .int .i64 (dD (start / 1440))] 131)).alloc (by have := H2.out.size; simp <;> omega) (.cells #[.int .i64 r.freq, .int .i64 r.interval, .int .i64 r.count, .int .i64 r.until_, .slice om nm cm, .slice od nd cd, .slice oy ny cy, .slice op np cp, .int .i64 r.start, .int .i64 (start / 1440), .int .i64 (dateY (start / 1440)), .int .i64 (dateM (start / 1440)), .int .i64 (dD (start / 1440)), .int .i64 (start % 1440)] 200))
  refine ⟨w2.heap.size + 1, rfl, by have := H2.out.size; omega, ⟨om, nm, cm, od, nd, cd, oy, ny, cy, op, np, cp, by have h := X3.out; rwa [World.size_alloc] at h, HRows.out.1.later' B3.out, HRows.out.2.1.later' B3.out, HRows.out.2.2.1.later' B3.out, HRows.out.2.2.2.later' B3.out⟩, B3.out⟩

set_option maxHeartbeats 8000000 in
set_option maxRecDepth 100000 in
theorem walk_no (cs : List Value) (r : RuleD) (start : Int) (w : World) (h : rRule w cs r) (hf : fewR r) (hno : ¬ (mayR r ∧ startOk start)) :
    Calls Tryz.prog 128 #[.agg cs.toArray, .int .i64 start] w fun e w' => e = .returned (.tuple #[.pointer none, .bool false]) ∧ Below w.heap.size w w' := by
  have SR := Lib.hid h
  obtain ⟨m, d, y, p, rfl, -, -, -, -, -, hm, hd, hy, hp⟩ := h
  obtain ⟨om, nm, cm, rfl, lm, -, -, RM⟩ := hm.open
  obtain ⟨od, nd, cd, rfl, ld, -, -, RD⟩ := hd.open
  obtain ⟨oy, ny, cy, rfl, ly, -, -, RY⟩ := hy.open
  obtain ⟨op, np, cp, rfl, lp, -, -, RP⟩ := hp.open
  have M0 := Lib.hid (fun (W : World) (hb : Below w.heap.size w W) => may_any _ r W (SR.out.later hb) hf)
  have X0 := Lib.hid (BxAt.new w #[.int .i64 r.freq, .int .i64 r.interval, .int .i64 r.count, .int .i64 r.until_, .slice om nm cm, .slice od nd cd, .slice oy ny cy, .slice op np cp, .int .i64 r.start] 28)
  have H0 := Lib.hid (show Below w.heap.size w (w.alloc (.cells #[.int .i64 r.freq, .int .i64 r.interval, .int .i64 r.count, .int .i64 r.until_, .slice om nm cm, .slice od nd cd, .slice oy ny cy, .slice op np cp, .int .i64 r.start] 28)) from belowA _ (Below.refl _ _))
  clear hm hd hy hp RM RD RY RP lm ld ly lp hf
  by_cases hr : mayR r
  · have M1 := Lib.hid (fun W hb => c_t (M0.out W hb) hr)
    have hs : ¬ startOk start := fun h => hno ⟨hr, h⟩
    unfold startOk at hs
    by_cases h1 : start < 0
    · have d1 := decide_eq_true h1
      clear hno hs hr M0
      go_enter Tryz.func128, Tryz.ntmps128
      go_wp2_with (first | (go_at_call 43; ((with_reducible refine (M1.out _ H0.out).mono ?_); rintro e w1 ⟨rfl, hb1⟩; have X1 := Lib.hid (X0.out.below hb1); have kA1 := X1.out.cell; have hz1 : w.heap.size < w1.heap.size := X1.out.lt; have H1 := Lib.hid (H0.out.trans (hb1.mono H0.out.size)); clear hb1)))
      go_ret2
      exact ⟨rfl, H1.out⟩
    · have d1 := decide_eq_false h1
      have h2 : (158310720 : Int) ≤ start := by omega
      have d2 := decide_eq_true h2
      clear hno hs hr M0
      go_enter Tryz.func128, Tryz.ntmps128
      go_wp2_with (first | (go_at_call 43; ((with_reducible refine (M1.out _ H0.out).mono ?_); rintro e w1 ⟨rfl, hb1⟩; have X1 := Lib.hid (X0.out.below hb1); have kA1 := X1.out.cell; have hz1 : w.heap.size < w1.heap.size := X1.out.lt; have H1 := Lib.hid (H0.out.trans (hb1.mono H0.out.size)); clear hb1)))
      go_ret2
      exact ⟨rfl, H1.out⟩
  · have M1 := Lib.hid (fun W hb => c_f (M0.out W hb) hr)
    clear hno hr M0
    go_enter Tryz.func128, Tryz.ntmps128
    go_wp2_with (first | (go_at_call 43; ((with_reducible refine (M1.out _ H0.out).mono ?_); rintro e w1 ⟨rfl, hb1⟩; have X1 := Lib.hid (X0.out.below hb1); have kA1 := X1.out.cell; have hz1 : w.heap.size < w1.heap.size := X1.out.lt; have H1 := Lib.hid (H0.out.trans (hb1.mono H0.out.size)); clear hb1)))
    go_ret2
    exact ⟨rfl, H1.out⟩

/-! ### first -/
/-- How long periods are. -/
def longs : List MapEntry := [⟨.int .i64 1, .int .i64 1, 0⟩, ⟨.int .i64 2, .int .i64 7, 1⟩, ⟨.int .i64 3, .int .i64 31, 2⟩, ⟨.int .i64 4, .int .i64 366, 3⟩]
theorem put_last (W0 : World) (o o' : Obj) : ({ W0.alloc o with heap := (W0.alloc o).heap.setIfInBounds W0.heap.size o' } : World) = W0.alloc o' := by
  have h : (W0.heap.push o).setIfInBounds W0.heap.size o' = W0.heap.push o' := by
    apply Array.ext'
    simp
  exact congrArg (fun h => ({ W0 with heap := h } : World)) h
theorem underInt : Tryz.prog.underlying 3 = some (.int .i64) := by kernel_rfl
theorem underMap : Tryz.prog.underlying 202 = some (.map 3 3) := by kernel_rfl
theorem run_putI (W : World) (b : Nat) (es : List MapEntry) (clock : Nat) (k : Int) (v : Value) (W0 : World) (hW : W = W0.alloc (.map es.toArray clock)) (hb : b = W0.heap.size)
    (h1 : Instr.findNow (.int .i64) (.int .i64 k) es 0 = some none) : (Instr.mapUpdate 202 (.map (some b)) (.int .i64 k) v).run Tryz.prog W = .ok () (W0.alloc (.map ((es ++ [⟨.int .i64 k, v, clock⟩] : List MapEntry).toArray) (clock + 1))) := by
  subst hW hb
  have hb : (W0.alloc (.map es.toArray clock)).heap[W0.heap.size]? = some (.map es.toArray clock) := heap_alloc_new _ _
  have hk : MapKept.IsKey (.int .i64) (.int .i64 k) := rfl
  simp [Instr.mapUpdate, run_underlying underMap, MapKept.run_getObj_map hb, MapKept.run_checkKey underInt hk, MapKept.run_findKey underInt h1, MapKept.run_setObj_map _ hb, Result.andThen]
  exact put_last W0 _ _
theorem run_lookI (W : World) (b : Nat) (es : List MapEntry) (clock : Nat) (k : Int) (i : Nat) (v : Value) (hb : W.heap[b]? = some (.map es.toArray clock))
    (h1 : Instr.findNow (.int .i64) (.int .i64 k) es 0 = some (some (i, v))) : (Instr.lookup 202 (.map (some b)) (.int .i64 k) false).run Tryz.prog W = .ok v W := by
  have hk : MapKept.IsKey (.int .i64) (.int .i64 k) := rfl
  simp [Instr.lookup, run_underlying underMap, MapKept.run_getObj_map hb, MapKept.run_checkKey underInt hk, MapKept.run_findKey underInt h1, Result.andThen]

set_option maxHeartbeats 8000000 in
set_option maxRecDepth 100000 in
theorem wfirst_any (r : RuleD) (s mi : Int) (b : Nat) (from_ : Int) (w : World) (hW : Wk r s mi b w) (hs0 : 0 ≤ s) (hs1 : s < 109938) (h0 : 0 ≤ from_) (h1 : from_ ≤ 158310720) (hr : mayR r) :
    Calls Tryz.prog 130 #[.pointer (some ⟨b, 0, none⟩), .int .i64 from_] w fun e w' => e = .returned (.int .i64 (firstF r s from_ : Nat)) ∧ Below w.heap.size w w' := by
  obtain ⟨om, nm, cm, od, nd, cd, oy, ny, cy, op, np, cp, hxx, h2, h3, h4, h5⟩ := hW.lies
  have kA := hxx.cell
  have hbw : b < w.heap.size := hxx.lt
  obtain ⟨hf, ⟨hi0, hi1⟩, -, -⟩ := hr.may
  obtain ⟨g, hg⟩ : ∃ g, g = from_ / 1440 - s := ⟨_, rfl⟩
  clear hW h2 h3 h4 h5 hxx hr
  by_cases hc : 0 < r.count
  · have HE := Lib.hid (show firstF r s from_ = 0 by unfold firstF; rw [if_pos (.inl hc)])
    have d1 := decide_eq_true hc
    clear hg
    go_enter Tryz.func130, Tryz.ntmps130
    go_wp2_with fail
    go_ret
    exact ⟨by rw [HE.out]; rfl, Below.refl _ _⟩
  have d1 := decide_eq_false hc
  by_cases hg0 : from_ / 1440 - s ≤ 0
  · have HE := Lib.hid (show firstF r s from_ = 0 by unfold firstF; rw [if_pos (.inr hg0)])
    have d2 := decide_eq_true hg0
    clear hg
    go_enter Tryz.func130, Tryz.ntmps130
    go_wp2_with fail
    go_ret
    exact ⟨by rw [HE.out]; rfl, Below.refl _ _⟩
  have d2 := decide_eq_false hg0
  have hL : 1 ≤ longF r ∧ longF r ≤ 366 := by unfold longF; split <;> (try split) <;> (try split) <;> omega
  obtain ⟨T, hT⟩ : ∃ T : Nat → Array MapEntry, T = fun i => ((longs).take i).toArray := ⟨_, rfl⟩
  have hmk : ∀ W : World, (Instr.makeMap 202 none).run Tryz.prog W = .ok (.map (some W.heap.size)) (W.alloc (.map (T 0) 0)) := fun W => by rw [hT]; rfl
  have p0 : (Instr.mapUpdate 202 (.map (some w.heap.size)) (.int .i64 1) (.int .i64 1)).run Tryz.prog (w.alloc (.map (T 0) 0)) = .ok () (w.alloc (.map (T 1) 1)) := by rw [hT]; exact run_putI _ _ (longs.take 0) 0 _ _ w rfl rfl (by rfl)
  have p1 : (Instr.mapUpdate 202 (.map (some w.heap.size)) (.int .i64 2) (.int .i64 7)).run Tryz.prog (w.alloc (.map (T 1) 1)) = .ok () (w.alloc (.map (T 2) 2)) := by rw [hT]; exact run_putI _ _ (longs.take 1) 1 _ _ w rfl rfl (by rfl)
  have p2 : (Instr.mapUpdate 202 (.map (some w.heap.size)) (.int .i64 3) (.int .i64 31)).run Tryz.prog (w.alloc (.map (T 2) 2)) = .ok () (w.alloc (.map (T 3) 3)) := by rw [hT]; exact run_putI _ _ (longs.take 2) 2 _ _ w rfl rfl (by rfl)
  have p3 : (Instr.mapUpdate 202 (.map (some w.heap.size)) (.int .i64 4) (.int .i64 366)).run Tryz.prog (w.alloc (.map (T 3) 3)) = .ok () (w.alloc (.map (T 4) 4)) := by rw [hT]; exact run_putI _ _ (longs.take 3) 3 _ _ w rfl rfl (by rfl)
  have p4 : (Instr.lookup 202 (.map (some w.heap.size)) (.int .i64 r.freq) false).run Tryz.prog (w.alloc (.map (T 4) 4)) = .ok (.int .i64 (longF r)) (w.alloc (.map (T 4) 4)) := by
    rw [hT]
    have hl : longs.take 4 = longs := rfl
    have h4 : r.freq = 1 ∨ r.freq = 2 ∨ r.freq = 3 ∨ r.freq = 4 := by omega
    rcases h4 with h | h | h | h
    · exact run_lookI _ _ longs 4 _ 0 _ (heap_alloc_new _ _) (by rw [h]; unfold longF; rw [h]; rfl)
    · exact run_lookI _ _ longs 4 _ 1 _ (heap_alloc_new _ _) (by rw [h]; unfold longF; rw [h]; rfl)
    · exact run_lookI _ _ longs 4 _ 2 _ (heap_alloc_new _ _) (by rw [h]; unfold longF; rw [h]; rfl)
    · exact run_lookI _ _ longs 4 _ 3 _ (heap_alloc_new _ _) (by rw [h]; unfold longF; rw [h]; rfl)
  obtain ⟨l, hl⟩ : ∃ l, l = longF r := ⟨_, rfl⟩
  rw [← hl] at p4 hL
  obtain ⟨L0, L1⟩ := hL
  have m1 : 1 ≤ l * r.interval := by have := Int.mul_le_mul L0 hi0 (by omega) (by omega); omega
  have m2 : l * r.interval ≤ 366000 := by have := Int.mul_le_mul L1 hi1 (by omega) (by omega); omega
  have q0 : 0 ≤ (from_ / 1440 - s) / (l * r.interval) := Int.ediv_nonneg (by omega) (by omega)
  have q1 : (from_ / 1440 - s) / (l * r.interval) ≤ 109938 := by
    have := Int.ediv_le_self (l * r.interval) (show 0 ≤ from_ / 1440 - s by omega)
    omega
  have HE := Lib.hid (show firstF r s from_ = ((from_ / 1440 - s) / (l * r.interval) - 1).toNat by unfold firstF; rw [if_neg (fun h => h.elim hc hg0), hl])
  have HB := Lib.hid (fun ob => show Below w.heap.size w (w.alloc ob) from belowA _ (Below.refl _ _))
  have hgp : 0 < from_ / 1440 - s := by omega
  clear hg hT hl hc hg0
  by_cases hz : (from_ / 1440 - s) / (l * r.interval) - 1 < 0
  all_goals
    go_enter Tryz.func130, Tryz.ntmps130
    go_wp2_with fail
    go_ret
    refine ⟨ret_i ?_, HB.out _⟩
    rw [HE.out]
    omega

/-- (*walker).from: the iterator. -/
theorem from_any2 (b : Nat) (k : Int) (w : World) :
    Calls Tryz.prog 129 #[.pointer (some ⟨b, 0, none⟩), .int .i64 k] w fun e w' => e = .returned (.func (.func 174) #[] #[.pointer (some ⟨w.heap.size, 0, none⟩), .pointer (some ⟨w.heap.size + 1, 0, none⟩)]) ∧ w' = (w.alloc (.cells #[.pointer (some ⟨b, 0, none⟩)] 159)).alloc (.cells #[.int .i64 k] 3) := by
  go_enter Tryz.func129, Tryz.ntmps129
  go_wp2_with fail
  go_ret
  exact ⟨rfl, rfl⟩
end Go.Proofs.YtechgcjdigpglaaGreat
namespace Go.Proofs.YtechgcjdigpglaaGreat
open Go.RowKit Go.ChangeShapes Go.WideShapes Go.Deep
set_option linter.all false
attribute [local go_sem] Oper.semAt_some

theorem yield_lvl {n m : Nat} {P : Program} {l : Nat} {args : Array Value} {W : World} {R : Ending → World → Prop} (h : YieldAt Fence.wide n P l args W R) : YieldAt Fence.wide m P l args W R := by
  obtain ⟨fn, tmps, assign, body, hy, hF, hr⟩ := h
  exact ⟨fn, tmps, assign, body, hy, hF, fun c cs _ => hr c cs (room_wide _)⟩
theorem callsIn_lvl {n m : Nat} {P : Program} {f : FuncId} {args : Array Value} {W : World} {R : Ending → World → Prop} (h : CallsIn Fence.wide n P f args W R) : CallsIn Fence.wide m P f args W R :=
  callsIn_wide.2 (callsIn_wide.1 h)

/-- How the body of a round is left: off its end, or by a return; what is to be left alone, and the loop's blocks lie as they lay. -/
def roundEndsM (G : Nat → Prop) (B : Nat) (R Rx : World → Prop) (W : World) : Exit → Act → World → Prop
  | .normal, _, W' => (∀ k, G k ∨ k = B ∨ k = B + 1 → W'.heap[k]? = W.heap[k]?) ∧ R W'
  | .ret, _, W' => (∀ k, k = B ∨ k = B + 1 → W'.heap[k]? = W.heap[k]?) ∧ Rx W'
  | _, _, _ => False
/-- The blocks to be left alone, and those that were made. -/
def more (G : Nat → Prop) (W W' : World) : Nat → Prop := fun k => G k ∨ (W.heap.size ≤ k ∧ k < W'.heap.size)

theorem range_mem {α : Type} {P : Program} (n : Nat) {g : Operand} {ps : Array Tmp} {assign body : Code} {Q : Exit → Act → World → Prop} {a : Act} {w : World} {gf : Nat} {lb : Array Value}
    (hg : a.eval g = .func (.func gf) #[] lb) (eg : ∀ args w, (callFunc gf args).run P w = .ok (.enter gf args) w) {encs : α → Array Value} (hps : ∀ x, (encs x).size = ps.size) (ys : List α)
    (I : (Nat → Prop) → List α → World → Prop) (Ix : World → Prop) (G0 : Nat → Prop)
    (hI : ∀ G pre W W', Below W.heap.size W W' → I G pre W → I (more G W W') pre W')
    (hIp : ∀ G pre W l o, l = w.heap.size ∨ l = w.heap.size + 1 → I G pre W → I G pre (W.putObj l o))
    (hIx : ∀ W l o, l = w.heap.size ∨ l = w.heap.size + 1 → Ix W → Ix (W.putObj l o)) (h0 : I G0 [] w) (a₁ : α → Act)
    (hassign : ∀ (l : Nat) (x : α) (W : World) (K : Act → World → Prop), K (a₁ x) W →
      assign.wpIn (Fence.wide.inRound l) (n - 1 - 1) P (Exit.then K (fun _ _ _ => False)) { tmps := (ps.zip (encs x)).foldl (fun t (p, v) => t.setIfInBounds p v) a.tmps, defers := [] } W)
    (hbody : ∀ (l : Nat) (G : Nat → Prop) (pre : List α) (x : α) (W : World), w.heap.size + 1 < W.heap.size → (∃ post, ys = pre ++ x :: post) → I G pre W → body.wpIn (Fence.wide.inRound l) (n - 1 - 1) P (roundEndsM G w.heap.size (I G (pre ++ [x])) Ix W) (a₁ x) W)
    (hseq : ∀ (l : Nat) (J : (Nat → Prop) → List α → World → Prop) (Jx : World → Prop) (G1 : Nat → Prop) (W1 : World), Below w.heap.size w W1 → (∀ G pre W, J G pre W → I G pre W) → (∀ G pre W W', Below W.heap.size W W' → J G pre W → J (more G W W') pre W') →
      (∀ m G pre x W, (∃ post, ys = pre ++ x :: post) → J G pre W → YieldAt Fence.wide m P l (encs x) W fun e W' => (e = .returned (.bool true) ∧ J G (pre ++ [x]) W' ∧ ∀ k, G k → W'.heap[k]? = W.heap[k]?) ∨ (e = .returned (.bool false) ∧ Jx W')) → J G1 [] W1 →
      CallsIn Fence.wide (n - 1) P gf (#[.func (.yield l) #[] #[]] ++ lb) W1 fun e W' => (∃ v, e = .returned v) ∧ ((∃ G, J G ys W') ∨ Jx W'))
    (hdone : ∀ G W, I G ys W → W.heap[w.heap.size]? = some (.deferred (some [])) → w.heap.size < W.heap.size → Q .normal { a with defers := { target := .collected w.heap.size, args := #[] } :: a.defers } W)
    (hstop : ∀ W, Ix W → W.heap[w.heap.size]? = some (.deferred (some [])) → w.heap.size < W.heap.size → Code.ret.wpIn Fence.wide n P Q { a with defers := { target := .collected w.heap.size, args := #[] } :: a.defers } W) :
    (Code.rangeFunc g ps assign body).wpIn Fence.wide n P Q a w := by
  refine wpIn_rangeFunc fun fn _ => ?_
  let rec_ : LoopState → Loop := fun st => { state := st, pending := none, fn, tmps := a.tmps, params := ps, assign, body, defers := w.heap.size }
  let W1 := (w.alloc (.deferred (some []))).alloc (.loop (rec_ .ready))
  have hD : W1.heap[w.heap.size]? = some (.deferred (some [])) := (Below.heap_alloc _ _ _ (by simp)).trans (World.alloc_heap_new w _)
  have hL : W1.heap[w.heap.size + 1]? = some (.loop (rec_ .ready)) := by
    have := World.alloc_heap_new (w.alloc (.deferred (some []))) (.loop (rec_ .ready))
    rwa [World.size_alloc] at this
  have hB1 : Below w.heap.size w (w.alloc (.deferred (some []))) := (Below.refl _ _).alloc (Nat.le_refl _) _
  have hB2 : Below (w.alloc (.deferred (some []))).heap.size (w.alloc (.deferred (some []))) W1 := (Below.refl _ _).alloc (Nat.le_refl _) _
  have hI1 := hI _ _ _ _ hB2 (hI _ _ _ _ hB1 h0)
  have hBW : Below w.heap.size w W1 := hB1.trans (hB2.mono (by simp))
  refine ⟨w.heap.size + 1, [{ target := .collected w.heap.size, args := #[] }], W1, { target := .fn (.func gf) lb, args := #[.func (.yield (w.heap.size + 1)) #[] #[]] }, W1, gf, #[.func (.yield (w.heap.size + 1)) #[] #[]] ++ lb, W1, run_enterLoop_outer _ _ _ _ _, ?_, fun _ _ => trivial, ?_, (fun h => by cases h), ?_⟩
  · simp only [resolve, hg]
    simp [go_sem]
  · simp [invoke, go_sem, eg]
  · refine (hseq (w.heap.size + 1) (fun G pre W => I G pre W ∧ W.heap[w.heap.size + 1]? = some (.loop (rec_ .ready)) ∧ W.heap[w.heap.size]? = some (.deferred (some []))) (fun W => Ix W ∧ W.heap[w.heap.size + 1]? = some (.loop { rec_ .done with pending := some .ret }) ∧ W.heap[w.heap.size]? = some (.deferred (some []))) _ W1 hBW (fun G pre W h => h.1)
      (fun G pre W W' hb ⟨h1, h2, h3⟩ => ⟨hI _ _ _ _ hb h1, (hb.block _ (Array.getElem?_eq_some_iff.1 h2).1).trans h2, (hb.block _ (Array.getElem?_eq_some_iff.1 h3).1).trans h3⟩) ?_ ⟨hI1, hL, hD⟩).mono ?_
    · rintro m G pre x W hpx ⟨h1, h2, h3⟩
      have hy := run_yield (P := P) (args := encs x) h2 (hps x)
      refine yield_lvl (n := n - 1 - 1) ⟨fn, _, assign, body, hy, roundIn_of_wpIn trivial (hassign _ x W _ ⟨_, run_beginRound h2 rfl, ?_⟩)⟩
      have hlt := (Array.getElem?_eq_some_iff.1 h2).1
      have g2 : (W.putObj (w.heap.size + 1) (.loop { rec_ .ready with state := .busy })).heap[w.heap.size + 1]? = some (.loop { rec_ .ready with state := .busy }) := World.putObj_heap_same hlt
      have g3 := (World.putObj_heap_other (w := W) (o := .loop { rec_ .ready with state := .busy }) (show w.heap.size ≠ w.heap.size + 1 by omega)).trans h3
      refine wpIn_mono (hbody _ G pre x _ (by rw [World.putObj_size]; exact hlt) hpx (hIp _ _ _ _ _ (.inr rfl) h1)) ?_
      rintro e a3 W3 hp
      cases e with
      | normal =>
        obtain ⟨hk, hi⟩ := hp
        have k2 := (hk (w.heap.size + 1) (by omega)).trans g2
        have k3 := (hk w.heap.size (by omega)).trans g3
        refine ⟨_, _, run_endRound none k2, .inl ⟨rfl, ⟨hIp _ _ _ _ _ (.inr rfl) hi, World.putObj_heap_same (Array.getElem?_eq_some_iff.1 k2).1, (World.putObj_heap_other (by omega)).trans k3⟩, fun k hk1 => ?_⟩⟩
        by_cases e : k = w.heap.size + 1
        · subst e
          exact (World.putObj_heap_same (Array.getElem?_eq_some_iff.1 k2).1).trans h2.symm
        · exact (World.putObj_heap_other e).trans ((hk k (.inl hk1)).trans (World.putObj_heap_other e))
      | ret =>
        obtain ⟨hk, hi⟩ := hp
        have k2 := (hk (w.heap.size + 1) (by omega)).trans g2
        have k3 := (hk w.heap.size (by omega)).trans g3
        exact ⟨_, _, run_endRound (some .ret) k2, .inr ⟨rfl, hIx _ _ _ (.inr rfl) hi, World.putObj_heap_same (Array.getElem?_eq_some_iff.1 k2).1, (World.putObj_heap_other (by omega)).trans k3⟩⟩
      | exit id => exact hp.elim
      | goto t => exact hp.elim
      | panic ch => exact hp.elim
      | outgrown => exact hp.elim
    · rintro e W2 ⟨⟨v, rfl⟩, ⟨G, h1, h2, h3⟩ | ⟨h1, h2, h3⟩⟩
      · exact ⟨none, _, run_endLoop h2 (by simp [rec_]), hdone _ _ (hIp _ _ _ _ _ (.inr rfl) h1) ((World.putObj_heap_other (by omega)).trans h3) (by have := (Array.getElem?_eq_some_iff.1 h3).1; simpa using this)⟩
      · exact ⟨some .ret, _, run_endLoop h2 (by simp), hstop _ (hIx _ _ _ (.inr rfl) h1) ((World.putObj_heap_other (by omega)).trans h3) (by have := (Array.getElem?_eq_some_iff.1 h3).1; simpa using this)⟩
/-- Marks on an activation that came from ranges over functions are taken in, one by one. -/
abbrev markOf (D : Nat) : Deferred := { target := .collected D, args := #[] }
theorem leaves_marks {F : Fence} {n : Nat} {P : Program} {fn : Func} {tmps : Array Value} {R : Ending → World → Prop} {u : FrameMode} (hu : u ≠ .run) : ∀ (Ds : List Nat) (W : World), Ds.Nodup → (∀ D ∈ Ds, W.heap[D]? = some (.deferred (some []))) →
    (∀ W', (∀ k, k ∉ Ds → W'.heap[k]? = W.heap[k]?) → W'.os = W.os → W'.tape = W.tape → W'.output = W.output → W.heap.size ≤ W'.heap.size → LeavesIn F n P fn tmps R [] u W') → LeavesInM F n P fn tmps R (Ds.map markOf) u W
  | [], W, _, _, h => h W (fun _ _ => rfl) rfl rfl rfl (Nat.le_refl _)
  | D :: Ds, W, hn, hK, h => by
    have hn' := List.nodup_cons.1 hn
    refine ⟨hu, .inl ⟨D, _, rfl, run_takeDeferred (hK D (List.mem_cons_self ..)), ?_⟩⟩
    refine leaves_marks hu Ds _ hn'.2 (fun E hE => ?_) (fun W' h1 h2 h3 h4 h5 => h W' (fun k hk => ?_) h2 h3 h4 (by simpa using h5))
    · exact (World.putObj_heap_other (fun e => hn'.1 (by rw [← e]; exact hE))).trans (hK E (List.mem_cons_of_mem _ hE))
    · rw [List.mem_cons, not_or] at hk
      exact (h1 k hk.2).trans (World.putObj_heap_other hk.1)
end Go.Proofs.YtechgcjdigpglaaGreat
