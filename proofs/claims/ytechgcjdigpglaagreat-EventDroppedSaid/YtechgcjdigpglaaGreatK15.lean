/- recur.Between: the walk where there may be times. Conditions: the rule may be, the start is a stamp. -/
import Derived.Test.YtechgcjdigpglaaGreatK14
import Derived.Shelf.Abstract
namespace Go.Proofs.YtechgcjdigpglaaGreat
open Go.RowKit Go.ChangeShapes Go.WideShapes Go.Deep
set_option linter.all false
attribute [local go_sem] Oper.semAt_some

theorem info64 : (Tryz.prog.info? 2).map (fun i => (i.zero, i.size, i.bytes)) = some (some (.int .i64 0), 1, 8) := by kernel_rfl
theorem under64 : Tryz.prog.underlying 29 = some (.slice 2) := by kernel_rfl
/-- An append of one cell to a row of one's own: where the new row lies. -/
theorem append_at {P : Program} (w : World) (base : Nat) (t ty e : TypeId) (i : TypeInfo) (z : Value) (ht : P.underlying t = some (.slice e)) (hi : P.info? e = some i) (hz : i.zero = some z) (h1 : i.size = 1) (h8 : i.bytes = 8)
    (v : Value) (n : Nat) (xs : List Value) (hown : w.ownsRow base e 1 v n xs) (a : Addr) (u : Value) (hu : w.cell? a = some u) (hu1 : u.oneCell' = true) (h63 : n + 1 ≤ maxLen) (hb : (n + 1) * 8 ≤ 140737488355328) (hbase : base ≤ w.heap.size) (hz1 : z.cells.size = 1 := by rfl) :
    ∃ v' w', (Builtin.append_ #[t, t] ty #[v, .slice (some a) 1 1]).run P w = .ok v' w' ∧ w'.ownsRow base e 1 v' (n + 1) (xs ++ [u]) ∧ w.grownBy w' v.ownBlock ∧ (v'.ownBlock = v.ownBlock ∨ ∀ k, v'.ownBlock = some k → w.heap.size ≤ k) := by
  have hnews : ∀ (j : Nat) (y : Value), [u][j]? = some y → w.cell? (a.add j) = some y := fun j y hj => by
    cases j with
    | zero => simp at hj; subst hj; simpa [Addr.add] using hu
    | succ j => simp at hj
  have hone : ∀ y ∈ [u], y.oneCell' = true := fun y hy => by simp at hy; subst hy; exact hu1
  have run := fun (B : Nat) (ho : w.ownsRow B e 1 v n xs) (hB : B ≤ w.heap.size) => run_append_own (P := P) w B t ty e i z 1 8 ht hi hz h1 h8 hz1 (by decide) v n xs ho a 1 1 [u] rfl hnews hone h63 hb hB
  obtain ⟨v', w', r1, r2, r3, r4⟩ := run base hown hbase
  refine ⟨v', w', r1, r2, r3, ?_⟩
  rcases hown.2 with ⟨rfl, rfl⟩ | ⟨g, cap, cur, rfl, q1, q2, q3, q4, q5, q6⟩
  · obtain ⟨v2, w2, s1, s2, -, -⟩ := run w.heap.size ⟨hown.1, .inl ⟨rfl, rfl⟩⟩ (Nat.le_refl _)
    rw [r1] at s1
    cases s1
    exact .inr fun k hk => (s2.lt k hk).1
  · by_cases hroom : n + 1 ≤ cap
    · have hr := run_append_room (P := P) w t ty e i ht hi g n cap cur q2 a 1 1 [u] (by simp [h1]) hnews hone hroom (by rw [h1, q5]; simp; omega)
      rw [r1] at hr
      cases hr
      exact .inl rfl
    · have hr := run_append_grow (P := P) w t ty e i z ht hi hz ⟨g, 0, none⟩ n cap xs (by rw [h1]; exact hown.1) (hown.cells (g := g) rfl) a 1 1 [u] (by simp [h1]) hnews (by omega) (by unfold maxLen at h63; omega) (growslice_fits (by omega) (by rw [h8]; exact hb))
      rw [r1] at hr
      cases hr
      exact .inr fun k hk => by simp [Value.ownBlock] at hk; omega
/-- An append whose run is known, within a round. -/
theorem append_ran {F : Fence} {n : Nat} {P : Program} {w w' : World} {ops : Array Oper} {rest : List Oper} {o : Oper} {a : Act} {Q : Exit → Act → World → Prop} (hg : o.guard = none) (s x : Operand) (t : TypeId) (hop : o.op = Op.call { callee := Callee.builtin Builtin.append, args := #[s, x], argTypes := #[t, t] })
    (v y v' : Value) (hs : a.eval s = v) (hx : a.eval x = y) (hrun : (Builtin.append_ #[t, t] o.type #[v, y]).run P w = .ok v' w') (hK : wpListIn F n P ops Q rest (a.put o.dst v') w') : wpListIn F n P ops Q (o :: rest) a w := by
  subst hs hx
  refine wpListIn_plain hg fun K hK2 => ⟨?_, ?_⟩
  · simp only [Oper.about, hop]
    simp [resolve, Target.leads, Sem.run_pure]
  · rw [Oper.semAt_plain F _ _ (fun c hc => by rw [hop] at hc; cases hc)]
    have e : (execOp a.eval o).run P w = .ok (.value v') w' := by
      simp [execOp, hop, resolve, invoke, builtin, hrun, Result.andThen]
    rw [e]
    exact hK2 _ _ hK
theorem own_slice2 {w : World} {B : Nat} {e : TypeId} {sz : Nat} {v : Value} {n : Nat} {xs : List Value} (h : w.ownsRow B e sz v n xs) : ∃ o c, v = .slice o n c := by
  obtain ⟨h1, h2 | ⟨g, cap, cur, e, _⟩⟩ := h
  · exact ⟨none, 0, by rw [h2.1, h2.2]⟩
  · exact ⟨_, _, e⟩
/-- What lies in memory while Between gathers. -/
structure BetI (WR : World) (o : Nat) (from_ to_ most : Int) (G : Nat → Prop) (pre : List Int) (W : World) : Prop where
  out : ∃ (xs : List Int) (v : Value), W.heap[o]? = some (.cells #[v] 29 (0, 0)) ∧ W.ownsRow (WR.heap.size + 2) 2 1 v xs.length (inC xs) ∧ (∀ k, v.ownBlock = some k → ¬ G k) ∧ xs.length ≤ pre.length ∧ ∀ rest, betF from_ to_ most [] (pre ++ rest) = betF from_ to_ most xs rest
  notG : ¬ G o
  lt : ∀ k, G k → k < W.heap.size
  old : ∀ k, k < WR.heap.size → k ≠ o → W.heap[k]? = WR.heap[k]?
  size : WR.heap.size ≤ W.heap.size
  os : W.os = WR.os
  tape : W.tape = WR.tape
  output : W.output = WR.output
theorem BetI.grow {WR : World} {o : Nat} {from_ to_ most : Int} {G : Nat → Prop} {pre : List Int} {W W' : World} (h : BetI WR o from_ to_ most G pre W) (ho : o < WR.heap.size) (hb : Below W.heap.size W W') : BetI WR o from_ to_ most (more G W W') pre W' := by
  obtain ⟨xs, v, h1, h2, h3, h4, h5⟩ := h.out
  have hs := h.size
  refine ⟨⟨xs, v, (hb.block _ (by omega)).trans h1, own_laterI h2 hb, fun k hk hm => ?_, h4, h5⟩, fun hm => ?_, fun k hm => ?_, fun k h1 h2 => (hb.block _ (by omega)).trans (h.old k h1 h2), Nat.le_trans hs hb.size, hb.os.trans h.os, hb.tape.trans h.tape, hb.output.trans h.output⟩
  · rcases hm with hm | hm
    · exact h3 k hk hm
    · have := (h2.lt k hk).2; omega
  · rcases hm with hm | hm
    · exact h.notG hm
    · omega
  · rcases hm with hm | hm
    · exact Nat.lt_of_lt_of_le (h.lt k hm) hb.size
    · exact hm.2
theorem BetI.put {WR : World} {o : Nat} {from_ to_ most : Int} {G : Nat → Prop} {pre : List Int} {W : World} {l : Nat} {ob : Obj} (h : BetI WR o from_ to_ most G pre W) (ho : o < WR.heap.size) (hl : l = WR.heap.size ∨ l = WR.heap.size + 1) : BetI WR o from_ to_ most G pre (W.putObj l ob) := by
  obtain ⟨xs, v, h1, h2, h3, h4, h5⟩ := h.out
  exact ⟨⟨xs, v, (World.putObj_heap_other (by omega)).trans h1, own_same h2 (fun k hk => World.putObj_heap_other (by have := (h2.lt k hk).1; omega)), h3, h4, h5⟩, h.notG, fun k hk => by rw [World.putObj_size]; exact h.lt k hk, fun k h1 h2 => (World.putObj_heap_other (by omega)).trans (h.old k h1 h2), by rw [World.putObj_size]; exact h.size, h.os, h.tape, h.output⟩
/-- What lies in memory where Between is left. -/
structure BetX (w WR : World) (a : Nat) (res : List Int × Bool) (W : World) : Prop where
  out : ∃ v : Value, W.heap[a]? = some (.cells #[v] 29 (0, 0)) ∧ W.heap[a + 1]? = some (.cells #[.bool res.2] 4 (0, 0)) ∧ W.ownsRow (WR.heap.size + 2) 2 1 v res.1.length (inC res.1)
  bel : Below w.heap.size w W
theorem BetX.put {w WR : World} {a : Nat} {res : List Int × Bool} {W : World} {l : Nat} {ob : Obj} (h : BetX w WR a res W) (ha : a + 1 < WR.heap.size ∧ w.heap.size ≤ WR.heap.size) (hl : l = WR.heap.size ∨ l = WR.heap.size + 1) : BetX w WR a res (W.putObj l ob) := by
  obtain ⟨v, h1, h2, h3⟩ := h.out
  exact ⟨⟨v, (World.putObj_heap_other (by omega)).trans h1, (World.putObj_heap_other (by omega)).trans h2, own_same h3 (fun k hk => World.putObj_heap_other (by have := (h3.lt k hk).1; omega))⟩,
    h.bel.trans ⟨rfl, rfl, rfl, by rw [World.putObj_size]; exact Nat.le_refl _, fun k hk => World.putObj_heap_other (by omega)⟩⟩

set_option maxRecDepth 100000 in
set_option maxHeartbeats 16000000 in
theorem between_yes (cs : List Value) (r : RuleD) (start from_ to_ most : Int) (w : World) (h : rRule w cs r) (hf : fewR r) (hr : mayR r) (hs : startOk start) (h1 : from_ < to_) (h2 : start < to_) :
    CallsIn Fence.wide 5 Tryz.prog 88 #[.agg cs.toArray, .int .i64 start, .int .i64 from_, .int .i64 to_, .int .i64 most] w (BetEnd r start from_ to_ most w) := by
  have SR := Lib.hid h
  obtain ⟨m, d, y, p, rfl, -, -, -, -, -, hm, hd, hy, hp⟩ := h
  obtain ⟨om, nm, cm, rfl, lm, -, -, RM⟩ := hm.open
  obtain ⟨od, nd, cd, rfl, ld, -, -, RD⟩ := hd.open
  obtain ⟨oy, ny, cy, rfl, ly, -, -, RY⟩ := hy.open
  obtain ⟨op, np, cp, rfl, lp, -, -, RP⟩ := hp.open
  clear hm hd hy hp RM RD RY RP lm ld ly lp
  obtain ⟨W6, hW6⟩ : ∃ W6, W6 = ((((((w.alloc (.cells #[.int .i64 r.freq, .int .i64 r.interval, .int .i64 r.count, .int .i64 r.until_, .slice om nm cm, .slice od nd cd, .slice oy ny cy, .slice op np cp, .int .i64 r.start] 28)).alloc (.cells #[.int .i64 from_] 2)).alloc (.cells #[.int .i64 to_] 2)).alloc (.cells #[.int .i64 most] 3)).alloc (.cells #[.slice none 0 0] 29)).alloc (.cells #[.bool false] 4)) := ⟨_, rfl⟩
  have hs6 : W6.heap.size = w.heap.size + 6 := by rw [hW6]; simp
  have hp6 : W6.heap = w.heap ++ #[.cells #[.int .i64 r.freq, .int .i64 r.interval, .int .i64 r.count, .int .i64 r.until_, .slice om nm cm, .slice od nd cd, .slice oy ny cy, .slice op np cp, .int .i64 r.start] 28, .cells #[.int .i64 from_] 2, .cells #[.int .i64 to_] 2, .cells #[.int .i64 most] 3, .cells #[.slice none 0 0] 29, .cells #[.bool false] 4] := by
    rw [hW6]
    show (((((w.heap.push _).push _).push _).push _).push _).push _ = _
    apply Array.ext'
    simp
  have g6 : ∀ (j : Nat), W6.heap[w.heap.size + j]? = (#[Obj.cells #[.int .i64 r.freq, .int .i64 r.interval, .int .i64 r.count, .int .i64 r.until_, .slice om nm cm, .slice od nd cd, .slice oy ny cy, .slice op np cp, .int .i64 r.start] 28, .cells #[.int .i64 from_] 2, .cells #[.int .i64 to_] 2, .cells #[.int .i64 most] 3, .cells #[.slice none 0 0] 29, .cells #[.bool false] 4] : Array Obj)[j]? := fun j => by
    rw [hp6, Array.getElem?_append_right (by omega)]; congr 1; omega
  have b6 : Below w.heap.size w W6 := by rw [hW6]; exact belowA _ (belowA _ (belowA _ (belowA _ (belowA _ (belowA _ (Below.refl _ _))))))
  obtain ⟨M, hM⟩ : ∃ M, M = if from_ < 0 then (0 : Int) else from_ := ⟨_, rfl⟩
  obtain ⟨F, hF⟩ : ∃ F, F = if 158310720 < M then (158310720 : Int) else M := ⟨_, rfl⟩
  have hMx : M = max from_ 0 := by rw [hM]; split <;> omega
  have hFx : F = min (max from_ 0) 158310720 := by rw [hF, hMx]; split <;> omega
  obtain ⟨ys, hys⟩ : ∃ ys, ys = timesF r (start / 1440) (start % 1440) (firstF r (start / 1440) F) := ⟨_, rfl⟩
  have HE := Lib.hid (show betweenF r start from_ to_ most = betF from_ to_ most [] ys by
    unfold betweenF
    rw [if_neg (by rw [dec_t ⟨hr, hs⟩]; rintro (h | h | h); · cases h
                   · omega
                   · omega), hys, hFx])
  have HG := Lib.hid g6; have HB6 := Lib.hid b6
  have WK := Lib.hid (walk_yes _ r start W6 (SR.out.later b6) hf hr hs)
  have FI := Lib.hid (fun bk W hW => wfirst_any r (start / 1440) (start % 1440) bk F W hW hs.day.1 hs.day.2 (by omega) (by omega) hr)
  have d1 : decide (to_ ≤ from_) = false := decide_eq_false (by omega)
  have d2 : decide (to_ ≤ start) = false := decide_eq_false (by omega)
  have hFB := firstF_bd (r := r) hs.day.1 (show 0 ≤ F by omega) (by omega) hr.may.1 hr.may.2.1.1
  obtain ⟨k0, hk0⟩ : ∃ k0, k0 = firstF r (start / 1440) F := ⟨_, rfl⟩
  rw [← hk0] at FI hys hFB
  have HYS := Lib.hid hys; have HFB := Lib.hid hFB; have HMAY := Lib.hid (And.intro hr (And.intro hs hf))
  have hlo : ¬ to_ ≤ from_ := by omega
  have HM := Lib.hid (And.intro hMx hFx)
  have eM := hM.symm
  have eF := hF.symm
  clear hp6 b6 g6 hf hys hFB hk0 hr hs hMx hFx hM hF
  refine callsIn_of_wp_marks Tryz.func88 rfl trivial ?_ rfl
  simp only [Tryz.ntmps88, List.size_toArray, List.length_cons, List.length_nil, Nat.reduceAdd, Nat.reduceSub, Array.replicate_succ, Array.replicate_zero, List.push_toArray, List.append_toArray, List.nil_append, List.cons_append]
  gi_wp2
  refine ⟨trivial, ?_⟩
  rw [← hW6]
  refine (callsIn_wide.2 WK.out).mono ?_
  rintro e w1 ⟨bk, rfl, hbk, hWk, hb1⟩
  have HB1 := Lib.hid hb1; have HWK := Lib.hid hWk
  have gF : w1.heap[w.heap.size + 1]? = some (.cells #[.int .i64 from_] 2 (0, 0)) := (hb1.block _ (by omega)).trans (HG.out 1)
  have gT : w1.heap[w.heap.size + 1 + 1]? = some (.cells #[.int .i64 to_] 2 (0, 0)) := (hb1.block _ (by omega)).trans (HG.out 2)
  have kF : w1.cell? ⟨w.heap.size + 1, 0, none⟩ = some (.int .i64 from_) := by rw [cell_of_row _ _ _ _ _ _ gF]; rfl
  have kT : w1.cell? ⟨w.heap.size + 1 + 1, 0, none⟩ = some (.int .i64 to_) := by rw [cell_of_row _ _ _ _ _ _ gT]; rfl
  have hz1 : w.heap.size + 6 ≤ w1.heap.size := by have := hb1.size; omega
  have hq1 : w.heap.size + 1 < w1.heap.size := by omega
  have hq2 : w.heap.size + 1 + 1 < w1.heap.size := by omega
  have hne1 : w.heap.size + 1 ≠ w1.heap.size := by omega
  clear hb1 gF gT hWk
  gi_wp2
  refine ⟨trivial, ?_⟩
  have F1 := Lib.hid (FI.out bk (w1.alloc (.cells #[.slice none 0 0] 29)) (HWK.out.later ((Below.refl _ _).alloc (Nat.le_refl _) _)))
  refine (callsIn_wide.2 F1.out).mono ?_
  rintro e w2 ⟨rfl, hb2⟩
  have HB2 := Lib.hid hb2
  have hz2 : w1.heap.size + 1 ≤ w2.heap.size := by have := hb2.size; simpa using this
  clear hb2 F1
  gi_wp2
  refine ⟨trivial, ?_⟩
  refine (callsIn_wide.2 (from_any2 bk (k0 : Int) w2)).mono ?_
  rintro e w3 ⟨rfl, rfl⟩
  obtain ⟨WR, hWR⟩ : ∃ WR, WR = (w2.alloc (.cells #[.pointer (some ⟨bk, 0, none⟩)] 159)).alloc (.cells #[.int .i64 (k0 : Nat)] 3) := ⟨_, rfl⟩
  rw [← hWR]
  have hsR : WR.heap.size = w2.heap.size + 2 := by rw [hWR]; simp
  have bR : Below w2.heap.size w2 WR := by rw [hWR]; exact belowA _ (belowA _ (Below.refl _ _))
  have c0 : WR.heap[w2.heap.size]? = some (.cells #[.pointer (some ⟨bk, 0, none⟩)] 159 (0, 0)) := by rw [hWR]; exact heap_alloc2_old _ _ _
  have c1 : WR.heap[w2.heap.size + 1]? = some (.cells #[.int .i64 (k0 : Nat)] 3 (0, 0)) := by rw [hWR]; exact heap_alloc2_new _ _ _
  have hB2 : Below w1.heap.size w1 w2 := ((Below.refl w1.heap.size w1).alloc (Nat.le_refl _) _).trans (HB2.out.mono (by simp))
  have hBR : Below w1.heap.size w1 WR := hB2.trans (bR.mono (by omega))
  have hout : WR.heap[w1.heap.size]? = some (.cells #[.slice none 0 0] 29 (0, 0)) := (bR.block _ (by omega)).trans ((HB2.out.block _ (by simp)).trans (heap_alloc_new _ _))
  have gW : ∀ j, j < 6 → WR.heap[w.heap.size + j]? = W6.heap[w.heap.size + j]? := fun j hj => (hBR.block _ (by omega)).trans (HB1.out.block _ (by omega))
  have gg : ∀ j, j < 6 → WR.heap[w.heap.size + j]? = (#[Obj.cells #[.int .i64 r.freq, .int .i64 r.interval, .int .i64 r.count, .int .i64 r.until_, .slice om nm cm, .slice od nd cd, .slice oy ny cy, .slice op np cp, .int .i64 r.start] 28, .cells #[.int .i64 from_] 2, .cells #[.int .i64 to_] 2, .cells #[.int .i64 most] 3, .cells #[.slice none 0 0] 29, .cells #[.bool false] 4] : Array Obj)[j]? := fun j hj => (gW j hj).trans (HG.out j)
  have hBw : Below w.heap.size w WR := (HB6.out.trans (HB1.out.mono HB6.out.size)).trans (hBR.mono (by omega))
  have HC := Lib.hid (And.intro c0 c1)
  have HO := Lib.hid hout; have HGG := Lib.hid gg; have HBW := Lib.hid hBw; have HBR := Lib.hid hBR
  have hbk1 : bk < w1.heap.size := by
    obtain ⟨om, nm, cm, od, nd, cd, oy, ny, cy, op, np, cp, hxx, -⟩ := HWK.out.lies
    exact hxx.lt
  clear hWR bR c0 c1 hB2 hBR hout gW gg hBw hW6 kF kT
  gi_wp2
  refine range_mem (n := 5) rfl (enters_of Tryz.func174 (by kernel_rfl) rfl) (encs := fun x : Int => #[.int .i64 x]) (fun _ => rfl) ys
    (BetI WR w1.heap.size from_ to_ most) (BetX w WR (w.heap.size + 4) (betF from_ to_ most [] ys)) (fun k => k < WR.heap.size ∧ k ≠ w1.heap.size) ?hI ?hIp ?hIx ?start (fun x => { tmps := #[(Value.agg #[.int .i64 r.freq, .int .i64 r.interval, .int .i64 r.count, .int .i64 r.until_, .slice om nm cm, .slice od nd cd, .slice oy ny cy, .slice op np cp, .int .i64 r.start]), .int .i64 start, .int .i64 from_, .int .i64 to_, .int .i64 most, .pointer (some ⟨w.heap.size, 0, none⟩), undef, .pointer (some ⟨w.heap.size + 1, 0, none⟩), .pointer (some ⟨w.heap.size + 1 + 1, 0, none⟩), .pointer (some ⟨w.heap.size + 1 + 1 + 1, 0, none⟩), .pointer (some ⟨w.heap.size + 1 + 1 + 1 + 1, 0, none⟩), .pointer (some ⟨w.heap.size + 1 + 1 + 1 + 1 + 1, 0, none⟩), .pointer (some ⟨bk, 0, none⟩), .bool true, .pointer (some ⟨w1.heap.size, 0, none⟩), .int .i64 x, .tuple #[.pointer (some ⟨bk, 0, none⟩), .bool true], (Value.agg #[.int .i64 r.freq, .int .i64 r.interval, .int .i64 r.count, .int .i64 r.until_, .slice om nm cm, .slice od nd cd, .slice oy ny cy, .slice op np cp, .int .i64 r.start]), .int .i64 start, .tuple #[.pointer (some ⟨bk, 0, none⟩), .bool true], .pointer (some ⟨bk, 0, none⟩), .bool true, .bool true, .bool false, .bool false, .int .i64 to_, .int .i64 from_, .bool false, .bool false, .bool false, .int .i64 to_, .int .i64 start, .bool false, .bool false, .pointer (some ⟨bk, 0, none⟩), .pointer (some ⟨bk, 0, none⟩), .int .i64 from_, .int .i64 M, .int .i64 F, .int .i64 (k0 : Nat), .func (.func 174) #[] #[.pointer (some ⟨w2.heap.size, 0, none⟩), .pointer (some ⟨w2.heap.size + 1, 0, none⟩)], .int .i64 x, undef, undef, undef, undef, undef, undef, undef, undef, undef, undef, undef, undef, undef, undef, undef, undef, undef, undef, undef], defers := [] }) ?assign ?body ?seq ?done ?stop
  case hI => exact fun G pre W W' hb h => h.grow (by omega) hb
  case hIp => exact fun G pre W l o hl h => h.put (by omega) hl
  case hIx => exact fun W l o hl h => h.put (by omega) hl
  case start => exact ⟨⟨[], _, HO.out, World.ownsRow_nil _ _ _ _, (fun k hk => by simp [Value.ownBlock] at hk), Nat.le_refl _, fun rest => rfl⟩, (fun h => h.2 rfl), fun k h => h.1, fun k _ _ => rfl, Nat.le_refl _, rfl, rfl, rfl⟩
  case assign =>
    intro l x W K hK
    gi_wp2
    exact hK
  case seq =>
    obtain rfl := HYS.out
    intro l J Jx G1 W1 hbW hJI hJm hY hj
    have k1 : W1.cell? ⟨w2.heap.size, 0, none⟩ = some (.pointer (some ⟨bk, 0, none⟩)) := by rw [hbW.cell (by simp only; omega), cell_of_row _ _ _ _ _ _ HC.out.1]; rfl
    have k2 : W1.cell? ⟨w2.heap.size + 1, 0, none⟩ = some (.int .i64 (k0 : Nat)) := by rw [hbW.cell (by simp only; omega), cell_of_row _ _ _ _ _ _ HC.out.2]; rfl
    have hi := HMAY.out.1.may
    have hd := HMAY.out.2.1.day
    have hkI0 : 0 ≤ (k0 : Int) * r.interval := Int.mul_nonneg (by omega) (by omega)
    have hLI : (k0 : Int) * (longF r * r.interval) = longF r * ((k0 : Int) * r.interval) := by rw [Int.mul_left_comm]
    have hfb := HFB.out
    rw [hLI] at hfb
    have hp0 : perBd r ((k0 : Int) * r.interval) := by
      obtain ⟨X, hX⟩ : ∃ X, X = (k0 : Int) * r.interval := ⟨_, rfl⟩
      rw [← hX] at hfb hkI0 ⊢
      have hL : longF r = if r.freq = 1 then 1 else if r.freq = 2 then 7 else if r.freq = 3 then 31 else 366 := rfl
      obtain ⟨hf1, hf2⟩ := hi.1
      have h4 : r.freq = 1 ∨ r.freq = 2 ∨ r.freq = 3 ∨ r.freq = 4 := by omega
      rcases h4 with h | h | h | h <;> (rw [h] at hL; simp at hL; rw [hL] at hfb; exact ⟨hkI0, by omega, by omega, by omega⟩)
    have T := Lib.hid (times_in r (start / 1440) (start % 1440) bk 3 l k0 J Jx G1 W1 hd.1 hd.2 HMAY.out.1 HMAY.out.2.2 (by omega) (by omega) (by omega) hp0
      (fun G pre W hj => HWK.out.later (by
        have h := hJI _ _ _ hj
        have hb := HBR.out
        exact ⟨h.os.trans hb.os, h.tape.trans hb.tape, h.output.trans hb.output, Nat.le_trans hb.size h.size, fun k hk => (h.old k (by omega) (by omega)).trans (hb.block k hk)⟩))
      hJm hY hj)
    clear hY hJm hJI hj hp0 hfb hLI
    refine callsIn_of_wp Tryz.func174 rfl trivial ?_ rfl
    simp only [Tryz.ntmps174, List.size_toArray, List.length_cons, List.length_nil, Nat.reduceAdd, Nat.reduceSub, Array.replicate_succ, Array.replicate_zero, List.push_toArray, List.append_toArray, List.nil_append, List.cons_append]
    gi_wp2
    refine ⟨trivial, ?_⟩
    refine (callsIn_lvl T.out).mono ?_
    rintro e w' ⟨⟨v, rfl⟩, hfin⟩
    have HFIN := Lib.hid hfin
    clear hfin
    gi_wp2
    go_end0
    exact ⟨⟨_, rfl⟩, HFIN.out⟩
  case body =>
    rintro l G pre x W hsz ⟨post, hpx⟩ h
    obtain ⟨xs, v, hov, hown, hvG, hlen, hbet⟩ := h.out
    obtain ⟨so, sc, rfl⟩ := own_slice2 hown
    have hfx : betF from_ to_ most [] ys = betF from_ to_ most xs (x :: post) := by rw [hpx]; exact hbet _
    have hyl : ys.length ≤ 110000 := by
      rw [HYS.out]
      exact timesF_len HMAY.out.2.1.day.1 HMAY.out.2.1.day.2 HMAY.out.1.may.1 HMAY.out.1.may.2.1.1 (by omega) (by omega)
    have hxl : xs.length ≤ 110000 := by rw [hpx, List.length_append] at hyl; omega
    have hsW := h.size
    have old : ∀ j, j < 6 → W.heap[w.heap.size + j]? = (#[Obj.cells #[.int .i64 r.freq, .int .i64 r.interval, .int .i64 r.count, .int .i64 r.until_, .slice om nm cm, .slice od nd cd, .slice oy ny cy, .slice op np cp, .int .i64 r.start] 28, .cells #[.int .i64 from_] 2, .cells #[.int .i64 to_] 2, .cells #[.int .i64 most] 3, .cells #[.slice none 0 0] 29, .cells #[.bool false] 4] : Array Obj)[j]? := fun j hj => (h.old _ (by omega) (by omega)).trans (HGG.out j hj)
    have kF : W.cell? ⟨w.heap.size + 1, 0, none⟩ = some (.int .i64 from_) := by rw [cell_of_row _ _ _ _ _ _ (old 1 (by omega))]; rfl
    have kT : W.cell? ⟨w.heap.size + 1 + 1, 0, none⟩ = some (.int .i64 to_) := by rw [cell_of_row _ _ _ _ _ _ (old 2 (by omega))]; rfl
    have kM : W.cell? ⟨w.heap.size + 1 + 1 + 1, 0, none⟩ = some (.int .i64 most) := by rw [cell_of_row _ _ _ _ _ _ (old 3 (by omega))]; rfl
    have kR : W.cell? ⟨w.heap.size + 1 + 1 + 1 + 1, 0, none⟩ = some (.slice none 0 0) := by rw [cell_of_row _ _ _ _ _ _ (old 4 (by omega))]; rfl
    have kK : W.cell? ⟨w.heap.size + 1 + 1 + 1 + 1 + 1, 0, none⟩ = some (.bool false) := by rw [cell_of_row _ _ _ _ _ _ (old 5 (by omega))]; rfl
    have fR : W.frozen? ⟨w.heap.size + 1 + 1 + 1 + 1, 0, none⟩ = false := frozen_of_row _ _ _ _ _ (old 4 (by omega))
    have fK : W.frozen? ⟨w.heap.size + 1 + 1 + 1 + 1 + 1, 0, none⟩ = false := frozen_of_row _ _ _ _ _ (old 5 (by omega))
    have kO : W.cell? ⟨w1.heap.size, 0, none⟩ = some (.slice so xs.length sc) := by rw [cell_of_row _ _ _ _ _ _ hov]; rfl
    have fO : W.frozen? ⟨w1.heap.size, 0, none⟩ = false := frozen_of_row _ _ _ _ _ hov
    have hbW : Below w.heap.size w W := HBW.out.trans ⟨h.os, h.tape, h.output, h.size, fun k hk => h.old k (by omega) (by omega)⟩
    have HI := Lib.hid h; have HW := Lib.hid hown; have HV := Lib.hid hvG; have HFX := Lib.hid hfx; have HBT := Lib.hid hbet; have HLN := Lib.hid hlen; have HOV := Lib.hid hov; have HOLD := Lib.hid old; have HBL := Lib.hid hbW
    clear h hown hvG hfx hbet hlen hpx hyl hov old hbW
    by_cases c1 : to_ ≤ x
    · have d1 := decide_eq_true c1
      have HR := Lib.hid (show betF from_ to_ most [] ys = (xs, true) by rw [HFX.out, betF, if_pos c1])
      clear c1
      gi_wp2
      have F := fill2_spec W (w.heap.size + 4) (.slice so xs.length sc) _ true false (HOLD.out 4 (by omega)) (HOLD.out 5 (by omega))
      refine ⟨fun k hk => F.2.2.1 k (by omega) (by omega), ⟨⟨_, F.1, ?_, ?_⟩, ?_⟩⟩
      · rw [HR.out]; exact F.2.1
      · rw [HR.out]; exact own_same HW.out (fun k hk => F.2.2.1 k (by have := (HW.out.lt k hk).1; omega) (by have := (HW.out.lt k hk).1; omega))
      · exact (HBL.out.setCell (by simp <;> omega) _).setCell (by simp <;> omega) _
    · have d1 := decide_eq_false c1
      by_cases c2 : x < from_
      · have d2 := decide_eq_true c2
        have HBT2 := Lib.hid (show ∀ rest, betF from_ to_ most [] ((pre ++ [x]) ++ rest) = betF from_ to_ most xs rest from fun rest => by
          rw [List.append_assoc, HBT.out, List.singleton_append, betF, if_neg c1, if_pos c2])
        clear c1 c2
        gi_wp2
        exact ⟨fun k _ => rfl, { HI.out with out := ⟨xs, _, HOV.out, HW.out, HV.out, by rw [List.length_append]; have := HLN.out; omega, HBT2.out⟩ }⟩
      · have d2 := decide_eq_false c2
        by_cases c3 : most ≤ (xs.length : Int)
        · have d3 := decide_eq_true c3
          have HR := Lib.hid (show betF from_ to_ most [] ys = ([], false) by rw [HFX.out, betF, if_neg c1, if_neg c2, if_pos c3])
          clear c1 c2 c3
          gi_wp2
          have F := fill2_spec W (w.heap.size + 4) (.slice none 0 0) _ false false (HOLD.out 4 (by omega)) (HOLD.out 5 (by omega))
          refine ⟨fun k hk => F.2.2.1 k (by omega) (by omega), ⟨⟨_, F.1, ?_, ?_⟩, ?_⟩⟩
          · rw [HR.out]; exact F.2.1
          · rw [HR.out]; exact World.ownsRow_nil _ _ _ _
          · exact (HBL.out.setCell (by simp <;> omega) _).setCell (by simp <;> omega) _
        · have d3 := decide_eq_false c3
          have HBT2 := Lib.hid (show ∀ rest, betF from_ to_ most [] ((pre ++ [x]) ++ rest) = betF from_ to_ most (xs ++ [x]) rest from fun rest => by
            rw [List.append_assoc, HBT.out, List.singleton_append, betF, if_neg c1, if_neg c2, if_neg c3])
          obtain ⟨i0, hi, hz0, hzz1, hzz2⟩ := info_parts info64
          clear c1 c2 c3
          obtain ⟨v', w4, hrun, hown4, hgrow, hnb⟩ := append_at (P := Tryz.prog) (W.alloc (.cells #[.int .i64 x] 2)) (WR.heap.size + 2) 29 29 2 i0 (.int .i64 0) under64 hi hz0 hzz1 hzz2 (.slice so xs.length sc) xs.length (inC xs) (HW.out.alloc _) ⟨W.heap.size, 0, none⟩ (.int .i64 x) (by simp [Addr.add]) rfl (by unfold maxLen; omega) (by omega) (by simp <;> omega)
          obtain ⟨so2, sc2, rfl⟩ := own_slice2 hown4
          have hk4 : ∀ k, k < W.heap.size → some k ≠ (Value.slice so xs.length sc).ownBlock → w4.heap[k]? = W.heap[k]? := fun k hk hne => (hgrow.block k (by simp <;> omega) hne).trans (Below.heap_alloc _ _ _ hk)
          have hsz4 : W.heap.size ≤ w4.heap.size := Nat.le_trans (by simp) hgrow.size
          have hvo : some w1.heap.size ≠ (Value.slice so xs.length sc).ownBlock := fun e => by have := (HW.out.lt _ e.symm).1; omega
          have ho4 : w4.heap[w1.heap.size]? = some (.cells #[.slice so xs.length sc] 29 (0, 0)) := (hk4 _ (by omega) hvo).trans HOV.out
          have kO4 : w4.cell? ⟨w1.heap.size, 0, none⟩ = some (.slice so xs.length sc) := by rw [cell_of_row _ _ _ _ _ _ ho4]; rfl
          have fO4 : w4.frozen? ⟨w1.heap.size, 0, none⟩ = false := frozen_of_row _ _ _ _ _ ho4
          have HRUN := Lib.hid hrun
          have HO4 := Lib.hid ho4; have HK4 := Lib.hid hk4; have HOW := Lib.hid hown4; have HGR := Lib.hid hgrow; have HVO := Lib.hid hvo
          have HNB := Lib.hid hnb; have HSZ := Lib.hid hsz4
          clear hown4 hgrow hk4 hvo ho4 hnb hsz4 hrun
          gi_wp2_with (gi_at_builtin; refine append_ran rfl (.tmp 56) (.tmp 58) 29 rfl _ _ _ rfl rfl HRUN.out ?_)
          have hb4 : ∀ k, k < W.heap.size → k ≠ w1.heap.size → some k ≠ (Value.slice so xs.length sc).ownBlock → (w4.setCell ⟨w1.heap.size, 0, none⟩ (.slice so2 (xs.length + 1) sc2)).heap[k]? = W.heap[k]? := fun k h1 h2 h3 => (Below.heap_setCell _ _ _ _ h2).trans (HK4.out k h1 h3)
          have hpre : ∀ k, k < WR.heap.size → some k ≠ (Value.slice so xs.length sc).ownBlock := fun k hk e => by have := (HW.out.lt _ e.symm).1; omega
          have hss : (w4.setCell ⟨w1.heap.size, 0, none⟩ (.slice so2 (xs.length + 1) sc2)).heap.size = w4.heap.size := by simp [World.setCell]
          refine ⟨fun k hk => ?_, ⟨⟨xs ++ [x], .slice so2 (xs.length + 1) sc2, heap_setCell_same _ _ 0 _ _ _ HO4.out, ?_, ?_, ?_, HBT2.out⟩, HI.out.notG, ?_, ?_, ?_, ?_, ?_, ?_⟩⟩
          · rcases hk with hk | hk
            · exact hb4 k (HI.out.lt k hk) (fun e => HI.out.notG (e ▸ hk)) (fun e => HV.out k e.symm hk)
            · exact hb4 k (by omega) (by omega) (fun e => by have := (HW.out.lt _ e.symm).1; omega)
          · have h := own_same HOW.out (W' := w4.setCell ⟨w1.heap.size, 0, none⟩ (.slice so2 (xs.length + 1) sc2)) (fun k hk => Below.heap_setCell _ _ _ _ (by have := (HOW.out.lt k hk).1; simp only; omega))
            rw [List.length_append, inC_append]
            exact h
          · intro k hk hG
            rcases HNB.out with e | e
            · exact HV.out k (by rw [← e]; exact hk) hG
            · have h1 := e k hk; have h2 := HI.out.lt k hG; simp at h1; omega
          · rw [List.length_append, List.length_append]; have := HLN.out; simp; omega
          · intro k hk; rw [hss]; exact Nat.lt_of_lt_of_le (HI.out.lt k hk) HSZ.out
          · exact fun k h1 h2 => (hb4 k (by omega) h2 (hpre k h1)).trans (HI.out.old k h1 h2)
          · rw [hss]; have := HSZ.out; omega
          · exact (show w4.os = WR.os from HGR.out.os.trans HI.out.os)
          · exact (show w4.tape = WR.tape from HGR.out.tape.trans HI.out.tape)
          · exact (show w4.output = WR.output from HGR.out.output.trans HI.out.output)
  case done =>
    intro G W h hD hl
    obtain ⟨xs, v, hov, hown, hvG, hlen, hbet⟩ := h.out
    obtain ⟨so, sc, rfl⟩ := own_slice2 hown
    have hsW := h.size
    have old : ∀ j, j < 6 → W.heap[w.heap.size + j]? = (#[Obj.cells #[.int .i64 r.freq, .int .i64 r.interval, .int .i64 r.count, .int .i64 r.until_, .slice om nm cm, .slice od nd cd, .slice oy ny cy, .slice op np cp, .int .i64 r.start] 28, .cells #[.int .i64 from_] 2, .cells #[.int .i64 to_] 2, .cells #[.int .i64 most] 3, .cells #[.slice none 0 0] 29, .cells #[.bool false] 4] : Array Obj)[j]? := fun j hj => (h.old _ (by omega) (by omega)).trans (HGG.out j hj)
    have kR : W.cell? ⟨w.heap.size + 1 + 1 + 1 + 1, 0, none⟩ = some (.slice none 0 0) := by rw [cell_of_row _ _ _ _ _ _ (old 4 (by omega))]; rfl
    have kK : W.cell? ⟨w.heap.size + 1 + 1 + 1 + 1 + 1, 0, none⟩ = some (.bool false) := by rw [cell_of_row _ _ _ _ _ _ (old 5 (by omega))]; rfl
    have fR : W.frozen? ⟨w.heap.size + 1 + 1 + 1 + 1, 0, none⟩ = false := frozen_of_row _ _ _ _ _ (old 4 (by omega))
    have fK : W.frozen? ⟨w.heap.size + 1 + 1 + 1 + 1 + 1, 0, none⟩ = false := frozen_of_row _ _ _ _ _ (old 5 (by omega))
    have kO : W.cell? ⟨w1.heap.size, 0, none⟩ = some (.slice so xs.length sc) := by rw [cell_of_row _ _ _ _ _ _ hov]; rfl
    have hbW : Below w.heap.size w W := HBW.out.trans ⟨h.os, h.tape, h.output, h.size, fun k hk => h.old k (by omega) (by omega)⟩
    have HR := Lib.hid (show betweenF r start from_ to_ most = (xs, true) by
      have := hbet []
      rw [List.append_nil] at this
      rw [HE.out, this, betF])
    have HW := Lib.hid hown; have HOLD := Lib.hid old; have HBL := Lib.hid hbW; have HD := Lib.hid hD
    clear h hown hvG hlen hbet hov old hbW hD
    gi_wp2
    have F := fill2_spec W (w.heap.size + 4) (.slice so xs.length sc) _ true false (HOLD.out 4 (by omega)) (HOLD.out 5 (by omega))
    exact bet_ends [WR.heap.size] HR.out rfl rfl F.1 F.2.1 (B := WR.heap.size + 2) (own_same HW.out (fun k hk => F.2.2.1 k (by have := (HW.out.lt k hk).1; omega) (by have := (HW.out.lt k hk).1; omega))) (by omega) ((HBL.out.setCell (by simp <;> omega) _).setCell (by simp <;> omega) _) (by simp)
      (fun D hd => by rw [List.mem_singleton.1 hd, F.2.2.1 _ (by omega) (by omega)]; exact HD.out) (by constructor <;> (rw [List.mem_singleton]; omega)) (fun D hd => by rw [List.mem_singleton.1 hd]; omega) (fun k hk => by rw [List.mem_singleton]; have := (HW.out.lt k hk).1; omega)
  case stop =>
    intro W hx hD hl
    obtain ⟨v, g1, g2, g3⟩ := hx.out
    have HX := Lib.hid hx; have HD := Lib.hid hD; have HV := Lib.hid (And.intro g1 (And.intro g2 g3))
    clear hx hD g1 g2 g3
    gi_wp2
    exact bet_ends (ok := (betF from_ to_ most [] ys).2) (xs := (betF from_ to_ most [] ys).1) [WR.heap.size] HE.out rfl rfl HV.out.1 HV.out.2.1 (B := WR.heap.size + 2) HV.out.2.2 (by omega) HX.out.bel (by simp)
      (fun D hd => by rw [List.mem_singleton.1 hd]; exact HD.out) (by constructor <;> (rw [List.mem_singleton]; omega)) (fun D hd => by rw [List.mem_singleton.1 hd]; omega) (fun k hk => by rw [List.mem_singleton]; have := (HV.out.2.2.lt k hk).1; omega)
end Go.Proofs.YtechgcjdigpglaaGreat
