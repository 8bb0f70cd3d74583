/- The iterator of SplitSeq and a range over it, by a caller whose rounds may end in a return. Conditions: the rounds leave whatever lay from the iterator's box on. What lies in memory while Read goes on at any text; all parts' readers. Conditions: the tables are laid, the errors of strconv lie in their boxes. strings.Cut at any text; a look-up that finds nothing; what Read hands back; rows of memory of one's own read as rows. Conditions: each theorem's own. -/
import Derived.Test.YtcleicjgeflbnaaGreatDoorV4
import Derived.Test.YtcleicjgeflbnaaGreatDoorQ3
import Derived.Test.YtcleicjgeflbnaaGreatDoorV13
namespace Go.Proofs.YtcleicjgeflbnaaGreatDoor
open Go.RowKit Go.ChangeShapes Go.WideShapes Go.Deep
set_option linter.all false
attribute [local go_sem] Oper.semAt_some

set_option maxRecDepth 100000 in
set_option maxHeartbeats 4000000 in
theorem split_in2 (d : UInt8) (n l c : Nat) (s : ByteArray) (J : List ByteArray → World → Prop) (Jx : World → Prop) (W : World)
    (hJ : ∀ pre W v, J pre W → J pre (W.setCell ⟨c, 0, none⟩ v))
    (hY : ∀ pre x W, (∃ post, splitB d s = pre ++ x :: post) → J pre W → YieldAt Fence.wide (n - 1) Tryz.prog l #[.string x] W fun e W' => (e = .returned (.bool true) ∧ J (pre ++ [x]) W' ∧ ∀ k, c ≤ k → k ≤ c + 2 → W'.heap[k]? = W.heap[k]?) ∨ (e = .returned (.bool false) ∧ Jx W'))
    (h0 : W.heap[c]? = some (.cells #[.string s] 9 (0, 0))) (h1 : W.heap[c + 1]? = some (.cells #[.string ⟨#[d]⟩] 9 (0, 0))) (h2 : W.heap[c + 2]? = some (.cells #[.int .i64 0] 3 (0, 0))) (hs : s.size ≤ 1000000) (hj : J [] W) :
    CallsIn Fence.wide n Tryz.prog 71 #[.func (.yield l) #[] #[], .pointer (some ⟨c + 1, 0, none⟩), .pointer (some ⟨c, 0, none⟩), .pointer (some ⟨c + 2, 0, none⟩)] W fun e W' => (∃ v, e = .returned v) ∧ (J (splitB d s) W' ∨ Jx W') := by
  have c1 : W.cell? ⟨c + 1, 0, none⟩ = some (.string ⟨#[d]⟩) := by rw [cell_of_row _ _ _ _ _ _ h1]; rfl
  refine callsIn_of_wp Tryz.func71 rfl trivial ?_ rfl
  simp only [Tryz.ntmps71, List.size_toArray, List.length_cons, List.length_nil, Nat.reduceAdd, Nat.reduceSub, Array.replicate_succ, Array.replicate_zero, List.push_toArray, List.append_toArray, List.nil_append, List.cons_append]
  gi_wp2
  gi_loopw [7] (fun _ wr => ∃ (pre : List ByteArray) (r : ByteArray), wr.heap[c]? = some (.cells #[.string r] 9 (0, 0)) ∧ wr.heap[c + 1]? = some (.cells #[.string ⟨#[d]⟩] 9 (0, 0)) ∧ wr.heap[c + 2]? = some (.cells #[.int .i64 0] 3 (0, 0)) ∧ r.size ≤ 1000000 ∧ splitB d s = pre ++ splitB d r ∧ J pre wr)
    (fun _ wr => leftIn c wr)
  case atStart => exact ⟨[], s, h0, h1, h2, hs, rfl, hj⟩
  case round =>
    obtain ⟨pre, r, hc, hc1, hc2, hr, hsp, hJs⟩ := hrel
    have c0 : wr.cell? ⟨c, 0, none⟩ = some (.string r) := by rw [cell_of_row _ _ _ _ _ _ hc]; rfl
    have c1' : wr.cell? ⟨c + 1, 0, none⟩ = some (.string ⟨#[d]⟩) := by rw [cell_of_row _ _ _ _ _ _ hc1]; rfl
    have c2' : wr.cell? ⟨c + 2, 0, none⟩ = some (.int .i64 0) := by rw [cell_of_row _ _ _ _ _ _ hc2]; rfl
    have hge := Lib.indexByte_ge r.data.toList d
    have HJ := Lib.hid hJ; have HSP := Lib.hid hsp; have HC := Lib.hid (And.intro hc (And.intro hc1 hc2)); have HC0 := Lib.hid c0
    by_cases hi : Lib.indexByte r.data.toList d < 0
    · have e : splitB d r = [r] := splitB_none d r hi
      have d1 := decide_eq_true hi
      obtain ⟨fn, tmps, assign, body, hy, hR⟩ := hY pre r wr ⟨[], by rw [hsp, e]⟩ hJs
      have HY := Lib.hid hy; have HR := Lib.hid hR; have HE := Lib.hid e
      clear c1 h0 h1 h2 hj hs hY hR e hc hc1 hc2 hsp hJ
      gi_wp2
      refine ⟨trivial, (fun h => by cases h), ?_⟩
      refine (callsIn_wide.2 (Tryz.strings_Index_one r d _)).mono ?_
      rintro e w' ⟨rfl, rfl⟩
      gi_wp2
      refine ⟨(fun h => by cases h), ?_⟩
      refine HR.out.mono ?_
      rintro e W3 (⟨rfl, hJ', -⟩ | ⟨rfl, hx⟩)
      · gi_wp2
        go_end0
        exact ⟨⟨_, rfl⟩, .inl (by rw [HSP.out, HE.out]; exact hJ')⟩
      · gi_wp2
        go_end0
        exact ⟨⟨_, rfl⟩, .inr hx⟩
    · obtain ⟨i, hi'⟩ : ∃ i : Nat, Lib.indexByte r.data.toList d = (i : Int) := ⟨(Lib.indexByte r.data.toList d).toNat, by omega⟩
      obtain ⟨e, hlt⟩ := splitB_some d r i hi'
      have hlt' : (i : Int) < (r.size : Int) := by omega
      have hr' : (r.size : Int) ≤ 1000000 := by omega
      have d1 : ¬ (i : Int) < 0 := by omega
      obtain ⟨fn, tmps, assign, body, hy, hR⟩ := hY pre (r.extract 0 i) wr ⟨splitB d (r.extract (i + 1) r.size), by rw [hsp, e]⟩ hJs
      have HY := Lib.hid hy; have HR := Lib.hid hR; have HE := Lib.hid e
      have hw1 : wrap64 ((i : Int) + 0) = (i : Int) := by unfold wrap64; omega
      have hw2 : wrap64 ((i : Int) + 1) = ((i + 1 : Nat) : Int) := by unfold wrap64; omega
      have hsz : r.size ≤ 1000000 := hr
      clear c1 h0 h1 h2 hj hs hY hR e hc hc1 hc2 hsp hJ hi hge
      gi_wp2
      refine ⟨trivial, (fun h => by cases h), ?_⟩
      refine (callsIn_wide.2 (Tryz.strings_Index_one r d _)).mono ?_
      rintro e w' ⟨rfl, rfl⟩
      rw [hi']
      gi_wp2
      refine ⟨(fun h => by cases h), ?_⟩
      refine HR.out.mono ?_
      rintro e W3 (⟨rfl, hJ', hk⟩ | ⟨rfl, hx⟩)
      rotate_left
      · gi_wp2
        (try simp only [Exit.inBlock, Exit.then]); refine bodyPost_ret (results_none rfl _ _ _) rfl ?_
        exact ⟨⟨_, rfl⟩, .inr hx⟩
      · have k0 : W3.heap[c]? = some (.cells #[.string r] 9 (0, 0)) := (hk c (Nat.le_refl _) (by omega)).trans HC.out.1
        have k1 : W3.heap[c + 1]? = some (.cells #[.string ⟨#[d]⟩] 9 (0, 0)) := (hk (c + 1) (by omega) (by omega)).trans HC.out.2.1
        have k2 : W3.heap[c + 2]? = some (.cells #[.int .i64 0] 3 (0, 0)) := (hk (c + 2) (by omega) (Nat.le_refl _)).trans HC.out.2.2
        have d0 : W3.cell? ⟨c, 0, none⟩ = some (.string r) := by rw [cell_of_row _ _ _ _ _ _ k0]; rfl
        have d1' : W3.cell? ⟨c + 1, 0, none⟩ = some (.string ⟨#[d]⟩) := by rw [cell_of_row _ _ _ _ _ _ k1]; rfl
        have f0 : W3.frozen? ⟨c, 0, none⟩ = false := frozen_of_row _ _ _ _ _ k0
        have K0 := Lib.hid k0; have K1 := Lib.hid k1; have K2 := Lib.hid k2; have HJ3 := Lib.hid hJ'
        clear c0 c1' c2' hk k0 k1 k2 hJ' hy hJs
        gi_wp2
        go_roundw
        case measure =>
          have e1 : leftIn c (W3.setCell ⟨c, 0, none⟩ (.string (r.extract (i + 1) r.size))) = (r.extract (i + 1) r.size).size := by
            rw [leftIn, World.cell?_setCell_same' _ _ _ (by rw [d0]; rfl)]
          rw [e1, leftIn, HC0.out]
          simp only [ByteArray.size_extract]
          omega
        case rel =>
          refine ⟨pre ++ [r.extract 0 i], r.extract (i + 1) r.size, ?_, ?_, ?_, ?_, ?_, HJ.out _ _ _ HJ3.out⟩
          · exact (heap_setCell_same _ _ _ _ _ _ K0.out)
          · exact (Below.heap_setCell _ _ _ _ (by simp only; omega)).trans K1.out
          · exact (Below.heap_setCell _ _ _ _ (by simp only; omega)).trans K2.out
          · simp only [ByteArray.size_extract]; omega
          · rw [HSP.out, HE.out]; simp

/-- How the body of a round is left: off its end, or by a return; the iterator's boxes and the loop's blocks lie as they lay. -/
def roundEnds2 (c B : Nat) (R Rx : World → Prop) (W : World) : Exit → Act → World → Prop
  | .normal, _, W' => (∀ k, c ≤ k → k ≤ c + 2 ∨ k = B ∨ k = B + 1 → W'.heap[k]? = W.heap[k]?) ∧ R W'
  | .ret, _, W' => (∀ k, c ≤ k → k ≤ c + 2 ∨ k = B ∨ k = B + 1 → W'.heap[k]? = W.heap[k]?) ∧ Rx W'
  | _, _, _ => False
theorem range_box2 {α : Type} {P : Program} (n c : Nat) {g : Operand} {ps : Array Tmp} {assign body : Code} {Q : Exit → Act → World → Prop} {a : Act} {w : World} {gf : Nat} {lb : Array Value}
    (hg : a.eval g = .func (.func gf) #[] lb) (eg : ∀ args w, (callFunc gf args).run P w = .ok (.enter gf args) w) {encs : α → Array Value} (hps : ∀ x, (encs x).size = ps.size) (ys : List α)
    (I : List α → World → Prop) (hc : c < w.heap.size) (Ix : World → Prop) (hI : ∀ pre W W', Turned w.heap.size c W W' → I pre W → I pre W') (hIx : ∀ W W', Turned w.heap.size c W W' → Ix W → Ix W') (h0 : I [] w) (a₁ : α → Act)
    (hassign : ∀ (l : Nat) (x : α) (W : World) (K : Act → World → Prop), K (a₁ x) W →
      assign.wpIn (Fence.wide.inRound l) (n - 1 - 1) P (Exit.then K (fun _ _ _ => False)) { tmps := (ps.zip (encs x)).foldl (fun t (p, v) => t.setIfInBounds p v) a.tmps, defers := [] } W)
    (hbody : ∀ (l : Nat) (pre : List α) (x : α) (W : World), w.heap.size + 1 < W.heap.size → (∃ post, ys = pre ++ x :: post) → I pre W → body.wpIn (Fence.wide.inRound l) (n - 1 - 1) P (roundEnds2 c w.heap.size (I (pre ++ [x])) Ix W) (a₁ x) W)
    (hseq : ∀ (l : Nat) (J : List α → World → Prop) (Jx : World → Prop) (W1 : World), (∀ k, k < w.heap.size → W1.heap[k]? = w.heap[k]?) → (∀ pre W v, J pre W → J pre (W.setCell ⟨c, 0, none⟩ v)) →
      (∀ pre x W, (∃ post, ys = pre ++ x :: post) → J pre W → YieldAt Fence.wide (n - 1 - 1) P l (encs x) W fun e W' => (e = .returned (.bool true) ∧ J (pre ++ [x]) W' ∧ ∀ k, c ≤ k → k ≤ c + 2 → W'.heap[k]? = W.heap[k]?) ∨ (e = .returned (.bool false) ∧ Jx W')) → J [] W1 →
      CallsIn Fence.wide (n - 1) P gf (#[.func (.yield l) #[] #[]] ++ lb) W1 fun e W' => (∃ v, e = .returned v) ∧ (J ys W' ∨ Jx W'))
    (hc2 : c + 2 < w.heap.size)
    (hdone : ∀ W, I ys W → W.heap[w.heap.size]? = some (.deferred (some [])) → w.heap.size < W.heap.size → Q .normal { a with defers := { target := .collected w.heap.size, args := #[] } :: a.defers } W)
    (hstop : ∀ W, Ix W → W.heap[w.heap.size]? = some (.deferred (some [])) → w.heap.size < W.heap.size → Code.ret.wpIn Fence.wide n P Q { a with defers := { target := .collected w.heap.size, args := #[] } :: a.defers } W) :
    (Code.rangeFunc g ps assign body).wpIn Fence.wide n P Q a w := by
  refine wpIn_rangeFunc fun fn _ => ?_
  let rec_ : LoopState → Loop := fun st => { state := st, pending := none, fn, tmps := a.tmps, params := ps, assign, body, defers := w.heap.size }
  let W1 := (w.alloc (.deferred (some []))).alloc (.loop (rec_ .ready))
  have hB : w.heap.size ≤ w.heap.size := Nat.le_refl _
  have hD : W1.heap[w.heap.size]? = some (.deferred (some [])) := (Below.heap_alloc _ _ _ (by simp)).trans (World.alloc_heap_new w _)
  have hL : W1.heap[w.heap.size + 1]? = some (.loop (rec_ .ready)) := by
    have := World.alloc_heap_new (w.alloc (.deferred (some []))) (.loop (rec_ .ready))
    rwa [World.size_alloc] at this
  have hI1 : I [] W1 := hI _ _ _ (Turned.alloc _ _) (hI _ _ _ (Turned.alloc _ _) h0)
  refine ⟨w.heap.size + 1, [{ target := .collected w.heap.size, args := #[] }], W1, { target := .fn (.func gf) lb, args := #[.func (.yield (w.heap.size + 1)) #[] #[]] }, W1, gf, #[.func (.yield (w.heap.size + 1)) #[] #[]] ++ lb, W1, run_enterLoop_outer _ _ _ _ _, ?_, fun _ _ => trivial, ?_, (fun h => by cases h), ?_⟩
  · simp only [resolve, hg]
    simp [go_sem]
  · simp [invoke, go_sem, eg]
  · refine (hseq (w.heap.size + 1) (fun pre W => I pre W ∧ W.heap[w.heap.size + 1]? = some (.loop (rec_ .ready)) ∧ W.heap[w.heap.size]? = some (.deferred (some []))) (fun W => Ix W ∧ W.heap[w.heap.size + 1]? = some (.loop { rec_ .done with pending := some .ret }) ∧ W.heap[w.heap.size]? = some (.deferred (some []))) W1
      (fun k hk => (Below.heap_alloc _ _ _ (by simp; omega)).trans (Below.heap_alloc _ _ _ hk))
      (fun pre W v ⟨h1, h2, h3⟩ => ⟨hI _ _ _ (Turned.cell _ _) h1, (Below.heap_setCell _ _ _ _ (by simp only; omega)).trans h2, (Below.heap_setCell _ _ _ _ (by simp only; omega)).trans h3⟩) ?_ ⟨hI1, hL, hD⟩).mono ?_
    · rintro pre x W hpx ⟨h1, h2, h3⟩
      have hy := run_yield (P := P) (args := encs x) h2 (hps x)
      refine ⟨fn, _, assign, body, hy, roundIn_of_wpIn trivial (hassign _ x W _ ⟨_, run_beginRound h2 rfl, ?_⟩)⟩
      have hlt := (Array.getElem?_eq_some_iff.1 h2).1
      have g2 : (W.putObj (w.heap.size + 1) (.loop { rec_ .ready with state := .busy })).heap[w.heap.size + 1]? = some (.loop { rec_ .ready with state := .busy }) := World.putObj_heap_same hlt
      have g3 := (World.putObj_heap_other (w := W) (o := .loop { rec_ .ready with state := .busy }) (show w.heap.size ≠ w.heap.size + 1 by omega)).trans h3
      refine wpIn_mono (hbody _ pre x _ (by rw [World.putObj_size]; exact hlt) hpx (hI _ _ _ (Turned.put _ _ _ (by omega)) h1)) ?_
      rintro e a3 W3 hp
      cases e with
      | normal =>
        obtain ⟨hk, hi⟩ := hp
        have k2 := (hk (w.heap.size + 1) (by omega) (by omega)).trans g2
        have k3 := (hk w.heap.size (by omega) (by omega)).trans g3
        refine ⟨_, _, run_endRound none k2, .inl ⟨rfl, ⟨hI _ _ _ (Turned.put _ _ _ (by omega)) hi, World.putObj_heap_same (Array.getElem?_eq_some_iff.1 k2).1, (World.putObj_heap_other (by omega)).trans k3⟩, fun k hk1 hk2 => ?_⟩⟩
        exact (World.putObj_heap_other (by omega)).trans ((hk k hk1 (by omega)).trans (World.putObj_heap_other (by omega)))
      | ret =>
        obtain ⟨hk, hi⟩ := hp
        have k2 := (hk (w.heap.size + 1) (by omega) (by omega)).trans g2
        have k3 := (hk w.heap.size (by omega) (by omega)).trans g3
        exact ⟨_, _, run_endRound (some .ret) k2, .inr ⟨rfl, hIx _ _ (Turned.put _ _ _ (by omega)) hi, World.putObj_heap_same (Array.getElem?_eq_some_iff.1 k2).1, (World.putObj_heap_other (by omega)).trans k3⟩⟩
      | exit id => exact hp.elim
      | goto t => exact hp.elim
      | panic ch => exact hp.elim
      | outgrown => exact hp.elim
    · rintro e W2 ⟨⟨v, rfl⟩, ⟨h1, h2, h3⟩ | ⟨h1, h2, h3⟩⟩
      · exact ⟨none, _, run_endLoop h2 (by simp [rec_]), hdone _ (hI _ _ _ (Turned.put _ _ _ (by omega)) h1) ((World.putObj_heap_other (by omega)).trans h3) (by have := (Array.getElem?_eq_some_iff.1 h3).1; simpa using this)⟩
      · exact ⟨some .ret, _, run_endLoop h2 (by simp), hstop _ (hIx _ _ (Turned.put _ _ _ (by omega)) h1) ((World.putObj_heap_other (by omega)).trans h3) (by have := (Array.getElem?_eq_some_iff.1 h3).1; simpa using this)⟩
end Go.Proofs.YtcleicjgeflbnaaGreatDoor
namespace Go.Proofs.YtcleicjgeflbnaaGreatDoor
open Go.RowKit Go.ChangeShapes Go.WideShapes Go.Deep
set_option linter.all false

/-- All numbers of a rule are of their kind, its rows are not too long. -/
structure okR (r : RuleD) : Prop where
  f : wfi .i64 r.freq
  i : wfi .i64 r.interval
  c : wfi .i64 r.count
  u : wfi .i64 r.until_
  s : wfi .i64 r.start
  m : ∀ x ∈ r.byMonth, wfi .i64 x
  d : ∀ x ∈ r.byMonthDay, wfi .i64 x
  y : ∀ x ∈ r.byDay, wfi .i64 x.n ∧ wfi .i64 x.day
  p : ∀ x ∈ r.bySetPos, wfi .i64 x
  few : fewR r
instance wfi_dec (k : IntKind) (x : Int) : Decidable (wfi k x) := by unfold wfi; infer_instance
theorem wf_num (s : ByteArray) : wfi .i64 (numZ s) := by
  unfold numZ
  split
  · rename_i v h
    have := Lib.atoiAll_bounds h
    unfold wfi IntKind.min IntKind.max
    simp [IntKind.bits, IntKind.signed]
    omega
  · decide
theorem wf_idx (xs : List (List UInt8)) (s : List UInt8) (h : xs.length ≤ 10) : wfi .i64 (idxL xs s) ∧ wfi .i64 (idxL xs s + 1) := by
  have := idx_le s xs
  unfold wfi IntKind.min IntKind.max
  simp [IntKind.bits, IntKind.signed]
  omega
theorem wf_long (s : ByteArray) : wfi .i64 (longZ s) := by
  unfold longZ
  split
  · split
    · rename_i h
      have := rsF_true (longS s) (rsF (longS s)).1 (by rw [← h])
      unfold wfi IntKind.min IntKind.max
      simp [IntKind.bits, IntKind.signed]
      omega
    · decide
  · decide
theorem numsZ_le (v : ByteArray) (h : v.size ≤ 9999) : (numsZ v).length ≤ 10000 := by
  have := (splitB_le 44 v).1
  unfold numsZ
  rw [List.length_map]; omega
theorem dnsZ_le (v : ByteArray) (h : v.size ≤ 9999) : (dnsZ v).length ≤ 10000 := by
  have := (splitB_le 44 v).1
  unfold dnsZ
  rw [List.length_map]; omega
theorem wf_nums (v : ByteArray) : ∀ x ∈ numsZ v, wfi .i64 x := fun x hx => by
  obtain ⟨y, _, rfl⟩ := List.mem_map.1 hx
  exact wf_num y
theorem wf_dns (v : ByteArray) : ∀ x ∈ dnsZ v, wfi .i64 x.n ∧ wfi .i64 x.day := fun x hx => by
  obtain ⟨y, _, rfl⟩ := List.mem_map.1 hx
  exact ⟨wf_num _, (wf_idx daysL _ (by decide)).1⟩
theorem okR_B : okR ruleB := ⟨by decide, by decide, by decide, by decide, by decide, by simp [ruleB], by simp [ruleB], by simp [ruleB], by simp [ruleB], ⟨by decide, by decide, by decide, by decide⟩⟩
theorem okR_set {k v : ByteArray} {r r' : RuleD} (h : okR r) (hv : v.size ≤ 9999) (hset : setP k v r = some r') : okR r' := by
  unfold setP at hset
  split at hset
  · rw [← Option.some.inj hset]; exact { h with f := (wf_idx freqsL _ (by decide)).2, few := ⟨h.few.m, h.few.d, h.few.y, h.few.p⟩ }
  split at hset
  · rw [← Option.some.inj hset]; exact { h with i := wf_num v, few := ⟨h.few.m, h.few.d, h.few.y, h.few.p⟩ }
  split at hset
  · rw [← Option.some.inj hset]; exact { h with c := wf_num v, few := ⟨h.few.m, h.few.d, h.few.y, h.few.p⟩ }
  split at hset
  · rw [← Option.some.inj hset]; exact { h with u := wf_long v, few := ⟨h.few.m, h.few.d, h.few.y, h.few.p⟩ }
  split at hset
  · rw [← Option.some.inj hset]; exact { h with m := wf_nums v, few := ⟨numsZ_le v hv, h.few.d, h.few.y, h.few.p⟩ }
  split at hset
  · rw [← Option.some.inj hset]; exact { h with d := wf_nums v, few := ⟨h.few.m, numsZ_le v hv, h.few.y, h.few.p⟩ }
  split at hset
  · rw [← Option.some.inj hset]; exact { h with y := wf_dns v, few := ⟨h.few.m, h.few.d, dnsZ_le v hv, h.few.p⟩ }
  split at hset
  · rw [← Option.some.inj hset]; exact { h with p := wf_nums v, few := ⟨h.few.m, h.few.d, h.few.y, numsZ_le v hv⟩ }
  split at hset
  · rw [← Option.some.inj hset]; exact { h with s := (wf_idx daysL _ (by decide)).1, few := ⟨h.few.m, h.few.d, h.few.y, h.few.p⟩ }
  · cases hset

/-- The rule's box reads as a rule whose rows lie in memory of Read's own. -/
def RB (w : World) (r : RuleD) (cs : Array Value) (W : World) : Prop :=
  ∃ m d y p, cs = #[.int .i64 r.freq, .int .i64 r.interval, .int .i64 r.count, .int .i64 r.until_, m, d, y, p, .int .i64 r.start] ∧
    W.ownsRow (w.heap.size + 11) 3 1 m r.byMonth.length (inC r.byMonth) ∧ W.ownsRow (w.heap.size + 11) 3 1 d r.byMonthDay.length (inC r.byMonthDay) ∧
    W.ownsRow (w.heap.size + 11) 36 2 y r.byDay.length (dnC r.byDay) ∧ W.ownsRow (w.heap.size + 11) 3 1 p r.bySetPos.length (inC r.bySetPos)
/-- What lies in memory while Read goes on. -/
structure RAt (w : World) (r : RuleD) (W : World) : Prop where
  res : W.heap[w.heap.size]? = some (.cells zeroC 26 (0, 0))
  okc : W.heap[w.heap.size + 1]? = some (.cells #[.bool false] 4 (0, 0))
  rule : ∃ cs, W.heap[w.heap.size + 1 + 1]? = some (.cells cs 26 (0, 0)) ∧ RB w r cs W
  bx : W.heap[w.heap.size + 1 + 1 + 1]? = some (.cells #[.pointer (some ⟨w.heap.size + 1 + 1, 0, none⟩)] 39 (0, 0))
  mp : W.heap[w.heap.size + 1 + 1 + 1 + 1]? = some (.map (ents (w.heap.size + 1 + 1 + 1)).toArray 9)
  vr : W.heap[w.heap.size + 1 + 1 + 1 + 1 + 1]? = some (.cells #[.map (some (w.heap.size + 1 + 1 + 1 + 1))] 37 (0, 0))
  bel : Below w.heap.size w W
theorem RAt.turned {w W W' : World} {r : RuleD} (h : RAt w r W) (ht : Turned (w.heap.size + 9) (w.heap.size + 6) W W') : RAt w r W' := by
  have g : ∀ {b : Nat} {o : Obj}, b < w.heap.size + 6 → W.heap[b]? = some o → W'.heap[b]? = some o := fun hb ho => (ht.block _ (Array.getElem?_eq_some_iff.1 ho).1 (by omega) (by omega) (by omega)).trans ho
  obtain ⟨cs, h1, m, d, y, p, e, o1, o2, o3, o4⟩ := h.rule
  exact ⟨g (by omega) h.res, g (by omega) h.okc, ⟨cs, g (by omega) h1, m, d, y, p, e, own_turned o1 ht (by omega) (by omega), own_turned o2 ht (by omega) (by omega), own_turned o3 ht (by omega) (by omega), own_turned o4 ht (by omega) (by omega)⟩, g (by omega) h.bx, g (by omega) h.mp, g (by omega) h.vr, h.bel.trans ⟨ht.os, ht.tape, ht.output, ht.size, fun k hk => ht.block k (by have := h.bel.size; omega) (by omega) (by omega) (by omega)⟩⟩
theorem RAt.sets {w W W' : World} {r r' : RuleD} {cs : Array Value} (h : RAt w r W) (hs : Sets (w.heap.size + 1 + 1) cs W W') (hr : RB w r' cs W') : RAt w r' W' := by
  have g : ∀ {b : Nat} {o : Obj}, b ≠ w.heap.size + 1 + 1 → W.heap[b]? = some o → W'.heap[b]? = some o := fun hb ho => (hs.block _ (Array.getElem?_eq_some_iff.1 ho).1 hb).trans ho
  exact ⟨g (by omega) h.res, g (by omega) h.okc, ⟨cs, hs.box, hr⟩, g (by omega) h.bx, g (by omega) h.mp, g (by omega) h.vr, h.bel.trans ⟨hs.os, hs.tape, hs.output, hs.size, fun k hk => hs.block k (by have := h.bel.size; omega) (by omega)⟩⟩
theorem RAt.drewN {w W : World} {r : RuleD} (h : RAt w r W) (q : Nat) : RAt w r (W.drewN q) := by
  obtain ⟨cs, h1, m, d, y, p, e, o1, o2, o3, o4⟩ := h.rule
  exact ⟨h.res, h.okc, ⟨cs, h1, m, d, y, p, e, o1, o2, o3, o4⟩, h.bx, h.mp, h.vr, ⟨h.bel.os, h.bel.tape, h.bel.output, h.bel.size, h.bel.block⟩⟩
theorem own_sets {W W' : World} {B : Nat} {cs : Array Value} {e : TypeId} {z n : Nat} {v : Value} {xs : List Value} (h : W.ownsRow (B + 11) e z v n xs) (hs : Sets (B + 1 + 1) cs W W') : W'.ownsRow (B + 11) e z v n xs := by
  obtain ⟨h1, h2 | ⟨g, cap, cur, e, a1, a2, a3⟩⟩ := h
  · exact ⟨h1, .inl h2⟩
  · exact ⟨h1, .inr ⟨g, cap, cur, e, a1, (hs.block g (Array.getElem?_eq_some_iff.1 a2).1 (by omega)).trans a2, a3⟩⟩

set_option maxRecDepth 100000 in
set_option maxHeartbeats 4000000 in
theorem take_all (w W : World) (r r' : RuleD) (k v : ByteArray) (h : RAt w r W) (hsz : w.heap.size + 6 ≤ W.heap.size) (hL : Laid W) (hE : Errs W) (hs : v.size ≤ 1000000) (hset : setP k v r = some r') :
    ∃ i f, Instr.findNow .string (.string k) (ents (w.heap.size + 1 + 1 + 1)) 0 = some (some (i, .func (.func f) #[] #[.pointer (some ⟨(w.heap.size + 1 + 1 + 1), 0, none⟩)])) ∧ (∀ args W0, (callFunc f args).run Tryz.prog W0 = .ok (.enter f args) W0) ∧
      Calls Tryz.prog f #[.string v, .pointer (some ⟨(w.heap.size + 1 + 1 + 1), 0, none⟩)] W fun e w' => e = .returned (.tuple #[]) ∧ RAt w r' w' ∧ ∀ k, k < W.heap.size → k ≠ w.heap.size + 1 + 1 → w'.heap[k]? = W.heap[k]? := by
  obtain ⟨cs, hR, m, d, y, p, rfl, o1, o2, o3, o4⟩ := h.rule
  have hB : W.cell? ⟨(w.heap.size + 1 + 1 + 1), 0, none⟩ = some (.pointer (some ⟨(w.heap.size + 1 + 1), 0, none⟩)) := by rw [cell_of_row _ _ _ _ _ _ h.bx]; rfl
  unfold setP at hset
  split at hset
  · rename_i hk
    obtain rfl : k = toB nFREQ := by rw [← toB_of k, hk]
    have e := Option.some.inj hset
    refine ⟨0, 37, rfl, enters_of Tryz.func37 (by kernel_rfl) rfl, ?_⟩
    refine (takeFreq v (w.heap.size + 1 + 1 + 1) (w.heap.size + 1 + 1) #[.int .i64 r.freq, .int .i64 r.interval, .int .i64 r.count, .int .i64 r.until_, m, d, y, p, .int .i64 r.start] W hL hB hR rfl).mono ?_
    rintro e2 w' ⟨rfl, hS⟩
    refine ⟨rfl, h.sets hS ⟨m, d, y, p, by rw [← e]; rfl, (by rw [← e]; exact own_sets o1 hS), (by rw [← e]; exact own_sets o2 hS), (by rw [← e]; exact own_sets o3 hS), (by rw [← e]; exact own_sets o4 hS)⟩, hS.block⟩
  split at hset
  · rename_i hk
    obtain rfl : k = toB nINTERVAL := by rw [← toB_of k, hk]
    have e := Option.some.inj hset
    refine ⟨1, 39, rfl, enters_of Tryz.func39 (by kernel_rfl) rfl, ?_⟩
    refine (takeInterval v (w.heap.size + 1 + 1 + 1) (w.heap.size + 1 + 1) #[.int .i64 r.freq, .int .i64 r.interval, .int .i64 r.count, .int .i64 r.until_, m, d, y, p, .int .i64 r.start] W hs hE hB hR rfl).mono ?_
    rintro e2 w' ⟨rfl, hS⟩
    refine ⟨rfl, h.sets hS ⟨m, d, y, p, by rw [← e]; rfl, (by rw [← e]; exact own_sets o1 hS), (by rw [← e]; exact own_sets o2 hS), (by rw [← e]; exact own_sets o3 hS), (by rw [← e]; exact own_sets o4 hS)⟩, hS.block⟩
  split at hset
  · rename_i hk
    obtain rfl : k = toB nCOUNT := by rw [← toB_of k, hk]
    have e := Option.some.inj hset
    refine ⟨2, 41, rfl, enters_of Tryz.func41 (by kernel_rfl) rfl, ?_⟩
    refine (takeCount v (w.heap.size + 1 + 1 + 1) (w.heap.size + 1 + 1) #[.int .i64 r.freq, .int .i64 r.interval, .int .i64 r.count, .int .i64 r.until_, m, d, y, p, .int .i64 r.start] W hs hE hB hR rfl).mono ?_
    rintro e2 w' ⟨rfl, hS⟩
    refine ⟨rfl, h.sets hS ⟨m, d, y, p, by rw [← e]; rfl, (by rw [← e]; exact own_sets o1 hS), (by rw [← e]; exact own_sets o2 hS), (by rw [← e]; exact own_sets o3 hS), (by rw [← e]; exact own_sets o4 hS)⟩, hS.block⟩
  split at hset
  · rename_i hk
    obtain rfl : k = toB nUNTIL := by rw [← toB_of k, hk]
    have e := Option.some.inj hset
    refine ⟨3, 42, rfl, enters_of Tryz.func42 (by kernel_rfl) rfl, ?_⟩
    refine (takeUntil v (w.heap.size + 1 + 1 + 1) (w.heap.size + 1 + 1) #[.int .i64 r.freq, .int .i64 r.interval, .int .i64 r.count, .int .i64 r.until_, m, d, y, p, .int .i64 r.start] W hs  hB hR rfl).mono ?_
    rintro e2 w' ⟨rfl, hS⟩
    refine ⟨rfl, h.sets hS ⟨m, d, y, p, by rw [← e]; rfl, (by rw [← e]; exact own_sets o1 hS), (by rw [← e]; exact own_sets o2 hS), (by rw [← e]; exact own_sets o3 hS), (by rw [← e]; exact own_sets o4 hS)⟩, hS.block⟩
  split at hset
  · rename_i hk
    obtain rfl : k = toB nBYMONTH := by rw [← toB_of k, hk]
    have e := Option.some.inj hset
    refine ⟨4, 44, rfl, enters_of Tryz.func44 (by kernel_rfl) rfl, ?_⟩
    refine (takeMonth v (w.heap.size + 1 + 1 + 1) (w.heap.size + 1 + 1) #[.int .i64 r.freq, .int .i64 r.interval, .int .i64 r.count, .int .i64 r.until_, m, d, y, p, .int .i64 r.start] W hs hE hB hR rfl).mono ?_
    rintro e2 w' ⟨u, rfl, hS, ho⟩
    refine ⟨rfl, h.sets hS ⟨u, d, y, p, by rw [← e]; rfl, (by rw [← e]; simpa [numsZ, dnsZ] using own_base ho (show w.heap.size + 11 ≤ W.heap.size + 6 by omega)), (by rw [← e]; exact own_sets o2 hS), (by rw [← e]; exact own_sets o3 hS), (by rw [← e]; exact own_sets o4 hS)⟩, hS.block⟩
  split at hset
  · rename_i hk
    obtain rfl : k = toB nBYMONTHDAY := by rw [← toB_of k, hk]
    have e := Option.some.inj hset
    refine ⟨5, 46, rfl, enters_of Tryz.func46 (by kernel_rfl) rfl, ?_⟩
    refine (takeMonthDay v (w.heap.size + 1 + 1 + 1) (w.heap.size + 1 + 1) #[.int .i64 r.freq, .int .i64 r.interval, .int .i64 r.count, .int .i64 r.until_, m, d, y, p, .int .i64 r.start] W hs hE hB hR rfl).mono ?_
    rintro e2 w' ⟨u, rfl, hS, ho⟩
    refine ⟨rfl, h.sets hS ⟨m, u, y, p, by rw [← e]; rfl, (by rw [← e]; exact own_sets o1 hS), (by rw [← e]; simpa [numsZ, dnsZ] using own_base ho (show w.heap.size + 11 ≤ W.heap.size + 6 by omega)), (by rw [← e]; exact own_sets o3 hS), (by rw [← e]; exact own_sets o4 hS)⟩, hS.block⟩
  split at hset
  · rename_i hk
    obtain rfl : k = toB nBYDAY := by rw [← toB_of k, hk]
    have e := Option.some.inj hset
    refine ⟨6, 47, rfl, enters_of Tryz.func47 (by kernel_rfl) rfl, ?_⟩
    refine (takeDays v (w.heap.size + 1 + 1 + 1) (w.heap.size + 1 + 1) #[.int .i64 r.freq, .int .i64 r.interval, .int .i64 r.count, .int .i64 r.until_, m, d, y, p, .int .i64 r.start] W hs hL hE hB hR rfl).mono ?_
    rintro e2 w' ⟨u, rfl, hS, ho⟩
    refine ⟨rfl, h.sets hS ⟨m, d, u, p, by rw [← e]; rfl, (by rw [← e]; exact own_sets o1 hS), (by rw [← e]; exact own_sets o2 hS), (by rw [← e]; simpa [numsZ, dnsZ] using own_base ho (show w.heap.size + 11 ≤ W.heap.size + 6 by omega)), (by rw [← e]; exact own_sets o4 hS)⟩, hS.block⟩
  split at hset
  · rename_i hk
    obtain rfl : k = toB nBYSETPOS := by rw [← toB_of k, hk]
    have e := Option.some.inj hset
    refine ⟨7, 49, rfl, enters_of Tryz.func49 (by kernel_rfl) rfl, ?_⟩
    refine (takePos v (w.heap.size + 1 + 1 + 1) (w.heap.size + 1 + 1) #[.int .i64 r.freq, .int .i64 r.interval, .int .i64 r.count, .int .i64 r.until_, m, d, y, p, .int .i64 r.start] W hs hE hB hR rfl).mono ?_
    rintro e2 w' ⟨u, rfl, hS, ho⟩
    refine ⟨rfl, h.sets hS ⟨m, d, y, u, by rw [← e]; rfl, (by rw [← e]; exact own_sets o1 hS), (by rw [← e]; exact own_sets o2 hS), (by rw [← e]; exact own_sets o3 hS), (by rw [← e]; simpa [numsZ, dnsZ] using own_base ho (show w.heap.size + 11 ≤ W.heap.size + 6 by omega))⟩, hS.block⟩
  split at hset
  · rename_i hk
    obtain rfl : k = toB nWKST := by rw [← toB_of k, hk]
    have e := Option.some.inj hset
    refine ⟨8, 50, rfl, enters_of Tryz.func50 (by kernel_rfl) rfl, ?_⟩
    refine (takeStart v (w.heap.size + 1 + 1 + 1) (w.heap.size + 1 + 1) #[.int .i64 r.freq, .int .i64 r.interval, .int .i64 r.count, .int .i64 r.until_, m, d, y, p, .int .i64 r.start] W hL hB hR rfl).mono ?_
    rintro e2 w' ⟨rfl, hS⟩
    refine ⟨rfl, h.sets hS ⟨m, d, y, p, by rw [← e]; rfl, (by rw [← e]; exact own_sets o1 hS), (by rw [← e]; exact own_sets o2 hS), (by rw [← e]; exact own_sets o3 hS), (by rw [← e]; exact own_sets o4 hS)⟩, hS.block⟩
  · cases hset
end Go.Proofs.YtcleicjgeflbnaaGreatDoor
namespace Go.Proofs.YtcleicjgeflbnaaGreatDoor
open Go.RowKit Go.ChangeShapes Go.WideShapes Go.Deep
set_option linter.all false

set_option maxRecDepth 100000 in
set_option maxHeartbeats 4000000 in
theorem cut52_none (s : ByteArray) (w : World) (h : Lib.indexByte s.data.toList 61 < 0) (hs : s.size ≤ 1000000) :
    Calls Tryz.prog 52 #[.string s, .string ⟨#[61]⟩] w fun e w' => e = .returned (.tuple #[.string s, .string ⟨#[]⟩, .bool false]) ∧ w' = w := by
  have h1 := index74 s 61 w
  obtain ⟨i, hi⟩ : ∃ i, i = Lib.indexByte s.data.toList 61 := ⟨_, rfl⟩
  rw [← hi] at h h1
  have H1 := Lib.hid h1
  have hn : ¬ 0 ≤ i := by omega
  clear h1 hi
  go_enter Tryz.func52, Tryz.ntmps52
  go_wp2_with (go_at_call 74; ((with_reducible refine H1.out.mono ?_); rintro e w1 ⟨rfl, rfl⟩))
  go_ret3
  exact ⟨rfl, rfl⟩
theorem cut_none (s : ByteArray) (w : World) (h : Lib.indexByte s.data.toList 61 < 0) (hs : s.size ≤ 1000000) :
    Calls Tryz.prog 18 #[.string s, .string ⟨#[61]⟩] w fun e w' => e = .returned (.tuple #[.string s, .string ⟨#[]⟩, .bool false]) ∧ w' = w := by
  have H1 := Lib.hid (cut52_none s w h hs)
  clear h
  go_enter Tryz.func18, Tryz.ntmps18
  go_wp2_with (go_at_call 52; ((with_reducible refine H1.out.mono ?_); rintro e w1 ⟨rfl, rfl⟩))
  go_ret3
  exact ⟨rfl, rfl⟩
theorem cut_any (s : ByteArray) (w : World) (hs : s.size ≤ 1000000) :
    ∃ b, Calls Tryz.prog 18 #[.string s, .string ⟨#[61]⟩] w fun e w' => e = .returned (.tuple #[.string (cutK s), .string (cutV s), .bool b]) ∧ ∃ q, w' = w.drewN q := by
  by_cases h : Lib.indexByte s.data.toList 61 < 0
  · refine ⟨false, (cut_none s w h hs).mono ?_⟩
    rintro e w' ⟨rfl, rfl⟩
    unfold cutK cutV
    rw [if_pos h, if_pos h]
    exact ⟨rfl, 0, rfl⟩
  · obtain ⟨i, hi⟩ : ∃ i : Nat, Lib.indexByte s.data.toList 61 = (i : Int) := ⟨(Lib.indexByte s.data.toList 61).toNat, by omega⟩
    refine ⟨true, (cut_some s i w hi hs).mono ?_⟩
    rintro e w' ⟨rfl, q, rfl⟩
    unfold cutK cutV
    rw [if_neg h, if_neg h, hi, Int.toNat_natCast]
    exact ⟨rfl, q, rfl⟩
theorem cutV_le (s : ByteArray) : (cutV s).size ≤ s.size := by
  unfold cutV
  split
  · show 0 ≤ _; omega
  · simp only [ByteArray.size_extract]; omega
theorem look_miss (B : Nat) (k v : ByteArray) (r : RuleD) (h : setP k v r = none) : Instr.findNow .string (.string k) (ents B) 0 = some none := by
  unfold setP at h
  have e : ∀ l : List UInt8, k.data.toList ≠ l → (k == (⟨l.toArray⟩ : ByteArray)) = false := fun l hl => by
    show (k.data == l.toArray) = false
    rw [beq_eq_false_iff_ne]
    intro h
    exact hl (by rw [h])
  split at h
  · cases h
  rename_i h1
  split at h
  · cases h
  rename_i h2
  split at h
  · cases h
  rename_i h3
  split at h
  · cases h
  rename_i h4
  split at h
  · cases h
  rename_i h5
  split at h
  · cases h
  rename_i h6
  split at h
  · cases h
  rename_i h7
  split at h
  · cases h
  rename_i h8
  split at h
  · cases h
  rename_i h9
  have f1 := e _ h1; have f2 := e _ h2; have f3 := e _ h3; have f4 := e _ h4; have f5 := e _ h5; have f6 := e _ h6; have f7 := e _ h7; have f8 := e _ h8; have f9 := e _ h9
  simp only [nFREQ, nINTERVAL, nCOUNT, nUNTIL, nBYMONTH, nBYMONTHDAY, nBYDAY, nBYSETPOS, nWKST] at f1 f2 f3 f4 f5 f6 f7 f8 f9
  simp only [ents, Instr.findNow, Instr.sameNow, f1, f2, f3, f4, f5, f6, f7, f8, f9]

/-- What Read lays into what it hands back. -/
def fillG (W : World) (a : Nat) (c0 c1 c2 c3 c4 c5 c6 c7 c8 : Value) (b : Bool) : World := (((((((((W.setCell ⟨a, 0, none⟩ c0).setCell ⟨a, 1, none⟩ c1).setCell ⟨a, 2, none⟩ c2).setCell ⟨a, 3, none⟩ c3).setCell ⟨a, 4, none⟩ c4).setCell ⟨a, 5, none⟩ c5).setCell ⟨a, 6, none⟩ c6).setCell ⟨a, 7, none⟩ c7).setCell ⟨a, 8, none⟩ c8).setCell ⟨a + 1, 0, none⟩ (.bool b)
theorem fillG_spec (W : World) (a : Nat) (c0 c1 c2 c3 c4 c5 c6 c7 c8 : Value) (b z : Bool) (hZ : W.heap[a]? = some (.cells zeroC 26 (0, 0))) (hK : W.heap[a + 1]? = some (.cells #[.bool z] 4 (0, 0))) :
    (fillG W a c0 c1 c2 c3 c4 c5 c6 c7 c8 b).heap[a]? = some (.cells #[c0, c1, c2, c3, c4, c5, c6, c7, c8] 26 (0, 0)) ∧ (fillG W a c0 c1 c2 c3 c4 c5 c6 c7 c8 b).heap[a + 1]? = some (.cells #[.bool b] 4 (0, 0)) ∧ (∀ k, k ≠ a → k ≠ a + 1 → (fillG W a c0 c1 c2 c3 c4 c5 c6 c7 c8 b).heap[k]? = W.heap[k]?) ∧
      (fillG W a c0 c1 c2 c3 c4 c5 c6 c7 c8 b).os = W.os ∧ (fillG W a c0 c1 c2 c3 c4 c5 c6 c7 c8 b).tape = W.tape ∧ (fillG W a c0 c1 c2 c3 c4 c5 c6 c7 c8 b).output = W.output ∧ (fillG W a c0 c1 c2 c3 c4 c5 c6 c7 c8 b).heap.size = W.heap.size := by
  have o : ∀ (k b j : Nat) (u : Value) (X : World), k ≠ b → (X.setCell ⟨b, j, none⟩ u).heap[k]? = X.heap[k]? := fun k b j u X h => Below.heap_setCell _ _ _ _ h
  have p : ∀ (b j : Nat) (u : Value) (X : World), (X.setCell ⟨b, j, none⟩ u).os = X.os ∧ (X.setCell ⟨b, j, none⟩ u).tape = X.tape ∧ (X.setCell ⟨b, j, none⟩ u).output = X.output ∧ (X.setCell ⟨b, j, none⟩ u).heap.size = X.heap.size := fun b j u X => ⟨rfl, rfl, rfl, by simp [World.setCell]⟩
  obtain ⟨W0, e0⟩ : ∃ X, X = W.setCell ⟨a, 0, none⟩ c0 := ⟨_, rfl⟩
  have g0 : W0.heap[a]? = some (.cells #[c0, (.int .i64 0), (.int .i64 0), (.int .i64 0), (.slice none 0 0), (.slice none 0 0), (.slice none 0 0), (.slice none 0 0), (.int .i64 0)] 26 (0, 0)) := by rw [e0]; exact heap_setCell_same _ _ 0 _ _ _ hZ
  have k0 : W0.heap[a + 1]? = some (.cells #[.bool z] 4 (0, 0)) := by rw [e0, o _ _ _ _ _ (by omega)]; exact hK
  have r0 : ∀ k, k ≠ a → W0.heap[k]? = W.heap[k]? := fun k h => by rw [e0, o _ _ _ _ _ h]
  have q0 : W0.os = W.os ∧ W0.tape = W.tape ∧ W0.output = W.output ∧ W0.heap.size = W.heap.size := by
    have h := p a 0 c0 W
    rw [← e0] at h
    exact h
  obtain ⟨W1, e1⟩ : ∃ X, X = W0.setCell ⟨a, 1, none⟩ c1 := ⟨_, rfl⟩
  have g1 : W1.heap[a]? = some (.cells #[c0, c1, (.int .i64 0), (.int .i64 0), (.slice none 0 0), (.slice none 0 0), (.slice none 0 0), (.slice none 0 0), (.int .i64 0)] 26 (0, 0)) := by rw [e1]; exact heap_setCell_same _ _ 1 _ _ _ g0
  have k1 : W1.heap[a + 1]? = some (.cells #[.bool z] 4 (0, 0)) := by rw [e1, o _ _ _ _ _ (by omega)]; exact k0
  have r1 : ∀ k, k ≠ a → W1.heap[k]? = W.heap[k]? := fun k h => by rw [e1, o _ _ _ _ _ h]; exact r0 k h
  have q1 : W1.os = W.os ∧ W1.tape = W.tape ∧ W1.output = W.output ∧ W1.heap.size = W.heap.size := by
    have h := p a 1 c1 W0
    rw [← e1] at h
    exact ⟨h.1.trans q0.1, h.2.1.trans q0.2.1, h.2.2.1.trans q0.2.2.1, h.2.2.2.trans q0.2.2.2⟩
  obtain ⟨W2, e2⟩ : ∃ X, X = W1.setCell ⟨a, 2, none⟩ c2 := ⟨_, rfl⟩
  have g2 : W2.heap[a]? = some (.cells #[c0, c1, c2, (.int .i64 0), (.slice none 0 0), (.slice none 0 0), (.slice none 0 0), (.slice none 0 0), (.int .i64 0)] 26 (0, 0)) := by rw [e2]; exact heap_setCell_same _ _ 2 _ _ _ g1
  have k2 : W2.heap[a + 1]? = some (.cells #[.bool z] 4 (0, 0)) := by rw [e2, o _ _ _ _ _ (by omega)]; exact k1
  have r2 : ∀ k, k ≠ a → W2.heap[k]? = W.heap[k]? := fun k h => by rw [e2, o _ _ _ _ _ h]; exact r1 k h
  have q2 : W2.os = W.os ∧ W2.tape = W.tape ∧ W2.output = W.output ∧ W2.heap.size = W.heap.size := by
    have h := p a 2 c2 W1
    rw [← e2] at h
    exact ⟨h.1.trans q1.1, h.2.1.trans q1.2.1, h.2.2.1.trans q1.2.2.1, h.2.2.2.trans q1.2.2.2⟩
  obtain ⟨W3, e3⟩ : ∃ X, X = W2.setCell ⟨a, 3, none⟩ c3 := ⟨_, rfl⟩
  have g3 : W3.heap[a]? = some (.cells #[c0, c1, c2, c3, (.slice none 0 0), (.slice none 0 0), (.slice none 0 0), (.slice none 0 0), (.int .i64 0)] 26 (0, 0)) := by rw [e3]; exact heap_setCell_same _ _ 3 _ _ _ g2
  have k3 : W3.heap[a + 1]? = some (.cells #[.bool z] 4 (0, 0)) := by rw [e3, o _ _ _ _ _ (by omega)]; exact k2
  have r3 : ∀ k, k ≠ a → W3.heap[k]? = W.heap[k]? := fun k h => by rw [e3, o _ _ _ _ _ h]; exact r2 k h
  have q3 : W3.os = W.os ∧ W3.tape = W.tape ∧ W3.output = W.output ∧ W3.heap.size = W.heap.size := by
    have h := p a 3 c3 W2
    rw [← e3] at h
    exact ⟨h.1.trans q2.1, h.2.1.trans q2.2.1, h.2.2.1.trans q2.2.2.1, h.2.2.2.trans q2.2.2.2⟩
  obtain ⟨W4, e4⟩ : ∃ X, X = W3.setCell ⟨a, 4, none⟩ c4 := ⟨_, rfl⟩
  have g4 : W4.heap[a]? = some (.cells #[c0, c1, c2, c3, c4, (.slice none 0 0), (.slice none 0 0), (.slice none 0 0), (.int .i64 0)] 26 (0, 0)) := by rw [e4]; exact heap_setCell_same _ _ 4 _ _ _ g3
  have k4 : W4.heap[a + 1]? = some (.cells #[.bool z] 4 (0, 0)) := by rw [e4, o _ _ _ _ _ (by omega)]; exact k3
  have r4 : ∀ k, k ≠ a → W4.heap[k]? = W.heap[k]? := fun k h => by rw [e4, o _ _ _ _ _ h]; exact r3 k h
  have q4 : W4.os = W.os ∧ W4.tape = W.tape ∧ W4.output = W.output ∧ W4.heap.size = W.heap.size := by
    have h := p a 4 c4 W3
    rw [← e4] at h
    exact ⟨h.1.trans q3.1, h.2.1.trans q3.2.1, h.2.2.1.trans q3.2.2.1, h.2.2.2.trans q3.2.2.2⟩
  obtain ⟨W5, e5⟩ : ∃ X, X = W4.setCell ⟨a, 5, none⟩ c5 := ⟨_, rfl⟩
  have g5 : W5.heap[a]? = some (.cells #[c0, c1, c2, c3, c4, c5, (.slice none 0 0), (.slice none 0 0), (.int .i64 0)] 26 (0, 0)) := by rw [e5]; exact heap_setCell_same _ _ 5 _ _ _ g4
  have k5 : W5.heap[a + 1]? = some (.cells #[.bool z] 4 (0, 0)) := by rw [e5, o _ _ _ _ _ (by omega)]; exact k4
  have r5 : ∀ k, k ≠ a → W5.heap[k]? = W.heap[k]? := fun k h => by rw [e5, o _ _ _ _ _ h]; exact r4 k h
  have q5 : W5.os = W.os ∧ W5.tape = W.tape ∧ W5.output = W.output ∧ W5.heap.size = W.heap.size := by
    have h := p a 5 c5 W4
    rw [← e5] at h
    exact ⟨h.1.trans q4.1, h.2.1.trans q4.2.1, h.2.2.1.trans q4.2.2.1, h.2.2.2.trans q4.2.2.2⟩
  obtain ⟨W6, e6⟩ : ∃ X, X = W5.setCell ⟨a, 6, none⟩ c6 := ⟨_, rfl⟩
  have g6 : W6.heap[a]? = some (.cells #[c0, c1, c2, c3, c4, c5, c6, (.slice none 0 0), (.int .i64 0)] 26 (0, 0)) := by rw [e6]; exact heap_setCell_same _ _ 6 _ _ _ g5
  have k6 : W6.heap[a + 1]? = some (.cells #[.bool z] 4 (0, 0)) := by rw [e6, o _ _ _ _ _ (by omega)]; exact k5
  have r6 : ∀ k, k ≠ a → W6.heap[k]? = W.heap[k]? := fun k h => by rw [e6, o _ _ _ _ _ h]; exact r5 k h
  have q6 : W6.os = W.os ∧ W6.tape = W.tape ∧ W6.output = W.output ∧ W6.heap.size = W.heap.size := by
    have h := p a 6 c6 W5
    rw [← e6] at h
    exact ⟨h.1.trans q5.1, h.2.1.trans q5.2.1, h.2.2.1.trans q5.2.2.1, h.2.2.2.trans q5.2.2.2⟩
  obtain ⟨W7, e7⟩ : ∃ X, X = W6.setCell ⟨a, 7, none⟩ c7 := ⟨_, rfl⟩
  have g7 : W7.heap[a]? = some (.cells #[c0, c1, c2, c3, c4, c5, c6, c7, (.int .i64 0)] 26 (0, 0)) := by rw [e7]; exact heap_setCell_same _ _ 7 _ _ _ g6
  have k7 : W7.heap[a + 1]? = some (.cells #[.bool z] 4 (0, 0)) := by rw [e7, o _ _ _ _ _ (by omega)]; exact k6
  have r7 : ∀ k, k ≠ a → W7.heap[k]? = W.heap[k]? := fun k h => by rw [e7, o _ _ _ _ _ h]; exact r6 k h
  have q7 : W7.os = W.os ∧ W7.tape = W.tape ∧ W7.output = W.output ∧ W7.heap.size = W.heap.size := by
    have h := p a 7 c7 W6
    rw [← e7] at h
    exact ⟨h.1.trans q6.1, h.2.1.trans q6.2.1, h.2.2.1.trans q6.2.2.1, h.2.2.2.trans q6.2.2.2⟩
  obtain ⟨W8, e8⟩ : ∃ X, X = W7.setCell ⟨a, 8, none⟩ c8 := ⟨_, rfl⟩
  have g8 : W8.heap[a]? = some (.cells #[c0, c1, c2, c3, c4, c5, c6, c7, c8] 26 (0, 0)) := by rw [e8]; exact heap_setCell_same _ _ 8 _ _ _ g7
  have k8 : W8.heap[a + 1]? = some (.cells #[.bool z] 4 (0, 0)) := by rw [e8, o _ _ _ _ _ (by omega)]; exact k7
  have r8 : ∀ k, k ≠ a → W8.heap[k]? = W.heap[k]? := fun k h => by rw [e8, o _ _ _ _ _ h]; exact r7 k h
  have q8 : W8.os = W.os ∧ W8.tape = W.tape ∧ W8.output = W.output ∧ W8.heap.size = W.heap.size := by
    have h := p a 8 c8 W7
    rw [← e8] at h
    exact ⟨h.1.trans q7.1, h.2.1.trans q7.2.1, h.2.2.1.trans q7.2.2.1, h.2.2.2.trans q7.2.2.2⟩
  have ef : fillG W a c0 c1 c2 c3 c4 c5 c6 c7 c8 b = W8.setCell ⟨a + 1, 0, none⟩ (.bool b) := by unfold fillG; rw [e8, e7, e6, e5, e4, e3, e2, e1, e0]
  rw [ef]
  have h := p (a + 1) 0 (.bool b) W8
  refine ⟨by rw [o _ _ _ _ _ (by omega)]; exact g8, heap_setCell_same _ _ 0 _ _ (.bool b) k8, fun k h1 h2 => by rw [o _ _ _ _ _ h2]; exact r8 k h1, h.1.trans q8.1, h.2.1.trans q8.2.1, h.2.2.1.trans q8.2.2.1, h.2.2.2.trans q8.2.2.2⟩

theorem flat_at {α : Type} (enc : α → List Value) (z : Nat) : ∀ (xs : List α), (∀ x ∈ xs, (enc x).length = z) → ∀ (i : Nat) (x : α), xs[i]? = some x → ∀ j, j < z → (xs.flatMap enc)[i * z + j]? = (enc x)[j]?
  | [], _, i, x, hx, j, hj => by simp at hx
  | y :: r, h, 0, x, hx, j, hj => by
    simp at hx
    subst hx
    rw [List.flatMap_cons, List.getElem?_append_left (by rw [h y (by simp)]; omega)]
    simp
  | y :: r, h, i + 1, x, hx, j, hj => by
    have e : (i + 1) * z + j = z + (i * z + j) := by rw [Nat.succ_mul]; omega
    have ih := flat_at enc z r (fun q hq => h q (List.mem_cons_of_mem _ hq)) i x (by simpa using hx) j hj
    rw [List.flatMap_cons, List.getElem?_append_right (by rw [h y (by simp)]; omega), h y (by simp), ← ih, e]
    congr 1
    omega
theorem row_own {α : Type} {W : World} {B : Nat} {e : TypeId} {z : Nat} {v : Value} {xs : List α} (enc : α → List Value) (R : List Value → α → Prop) (h : W.ownsRow B e z v xs.length (xs.flatMap enc)) (henc : ∀ x ∈ xs, (enc x).length = z ∧ R (enc x) x) : Row W z R v xs := by
  have hc := h
  obtain ⟨h1, h2 | ⟨g, cap, cur, rfl, a1, a2, a3, a4, a5, a6⟩⟩ := h
  · obtain ⟨rfl, h0⟩ := h2
    rw [List.eq_nil_of_length_eq_zero h0]
    exact nil_row _ _ _
  · refine ⟨some ⟨g, 0, none⟩, xs.length, cap, rfl, (fun e => (by cases e)), rfl, a3, a4, fun i x hx => ?_⟩
    have hm := List.mem_of_getElem? hx
    refine ⟨⟨g, 0, none⟩, enc x, rfl, (henc x hm).1, fun j hj => ?_, (henc x hm).2⟩
    have hf := flat_at enc z xs (fun y hy => (henc y hy).1) i x hx j hj
    have hs : (enc x)[j]? = some ((enc x)[j]'(by rw [(henc x hm).1]; exact hj)) := List.getElem?_eq_getElem _
    rw [hs] at hf ⊢
    exact hc.cells (g := g) rfl _ _ hf
theorem rel_of {W : World} {B : Nat} {r : RuleD} {m d y p : Value} (hok : okR r) (o1 : W.ownsRow B 3 1 m r.byMonth.length (inC r.byMonth)) (o2 : W.ownsRow B 3 1 d r.byMonthDay.length (inC r.byMonthDay)) (o3 : W.ownsRow B 36 2 y r.byDay.length (dnC r.byDay)) (o4 : W.ownsRow B 3 1 p r.bySetPos.length (inC r.bySetPos)) :
    rRule W [.int .i64 r.freq, .int .i64 r.interval, .int .i64 r.count, .int .i64 r.until_, m, d, y, p, .int .i64 r.start] r :=
  ⟨m, d, y, p, rfl, hok.f, hok.i, hok.c, hok.u, hok.s, row_own (fun x => [.int .i64 x]) _ o1 (fun x hx => ⟨rfl, rfl, hok.m x hx⟩), row_own (fun x => [.int .i64 x]) _ o2 (fun x hx => ⟨rfl, rfl, hok.d x hx⟩),
    row_own (fun x => [.int .i64 x.n, .int .i64 x.day]) _ o3 (fun x hx => ⟨rfl, rfl, hok.y x hx⟩), row_own (fun x => [.int .i64 x]) _ o4 (fun x hx => ⟨rfl, rfl, hok.p x hx⟩)⟩
theorem own_keep {W W' : World} {B : Nat} {e : TypeId} {z n : Nat} {v : Value} {xs : List Value} (h : W.ownsRow B e z v n xs) (hk : ∀ k, B ≤ k → k < W.heap.size → W'.heap[k]? = W.heap[k]?) : W'.ownsRow B e z v n xs := by
  obtain ⟨h1, h2 | ⟨g, cap, cur, e, a1, a2, a3⟩⟩ := h
  · exact ⟨h1, .inl h2⟩
  · exact ⟨h1, .inr ⟨g, cap, cur, e, a1, (hk g a1 (Array.getElem?_eq_some_iff.1 a2).1).trans a2, a3⟩⟩
theorem readL_none {pre : List ByteArray} {x : ByteArray} {post : List ByteArray} {r0 r : RuleD} (h : readL pre r0 = some r) (hx : setP (cutK x) (cutV x) r = none) : readL (pre ++ x :: post) r0 = none := by
  rw [readL_app h, readL, hx]
theorem readL_snoc {pre : List ByteArray} {x : ByteArray} {r0 r r' : RuleD} (h : readL pre r0 = some r) (hx : setP (cutK x) (cutV x) r = some r') : readL (pre ++ [x]) r0 = some r' := by
  rw [readL_app h, readL, hx]
  rfl
end Go.Proofs.YtcleicjgeflbnaaGreatDoor
