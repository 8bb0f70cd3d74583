/- The walk of Tick: what a state is behind a tick. No condition but that the argument reads and has at most a hundred polls. -/
import Derived.Test.YtcleicjgeflbnaaG10
namespace Go.Proofs.Ytcleicjgeflbnaa
open Go.RowKit Go.ChangeShapes Go.WideShapes Go.Deep

theorem results_box {P : Program} {fn : Func} {p u v : Tmp} {ty : TypeId} (h : fn.results = #[.cell p ty, .tmp u, .tmp v]) (tmps : Array Value) (w : World) (g : Nat) (cs : List Value) (d : TypeDesc)
    (hp : tmps.getD p undef = .pointer (some ⟨g, 0, none⟩)) (hc : ∀ j x, cs[j]? = some x → w.cell? ⟨g, j, none⟩ = some x)
    (hu : P.underlying ty = some d) (hd : (match d with | .struct _ | .array _ _ => true | _ => false) = true) (hi : (P.info? ty).map (·.size) = some cs.length) :
    (results fn tmps).run P w = .ok (.tuple #[.agg cs.toArray, tmps.getD u undef, tmps.getD v undef]) w := by
  have hl : (loadCells ⟨g, 0, none⟩ cs.length).run P w = .ok cs.toArray w :=
    run_loadCells_list (P := P) w ⟨g, 0, none⟩ cs (fun j v hv => by
      have hadd : (⟨g, 0, none⟩ : Addr).add j = ⟨g, j, none⟩ := by unfold Addr.add; split <;> simp_all
      rw [hadd]; exact hc j v hv)
  have hp' : tmps[p]?.getD undef = .pointer (some ⟨g, 0, none⟩) := by simpa using hp
  cases hq : P.info? ty with
  | none => simp [hq] at hi
  | some i =>
    have hs : i.size = cs.length := by simpa [hq] using hi
    have hagg : (isAgg ty).run P w = .ok true w := by
      unfold isAgg
      rw [Sem.run_bind, run_underlying hu w]
      cases d <;> simp_all
    have hv : (loadVar ty ⟨g, 0, none⟩).run P w = .ok (.agg cs.toArray) w := by
      simp [loadVar, Sem.run_bind, hagg, sizeOf, typeInfo, hq, hs, hl]
    simp [results, h, hp', asAddr, hv]

def PollD.due (a : Int) (p : PollD) : Bool := decide ((p.state = 1 ∨ p.state = 2) ∧ p.until_ ≤ a)
def PollD.tick (a : Int) (p : PollD) : PollD := if p.due a then { p with state := 4 } else p
def StateD.tick (a : Int) (x : StateD) : StateD := { x with clock := a, polls := x.polls.map (PollD.tick a) }

theorem set_two {w1 w : World} {t : TypeId} {a b c d v : Value} (h : ∀ j, w1.cell? ⟨w.heap.size, j, none⟩ = World.cell? (w.alloc (.cells #[a, b, c, d] t)) ⟨w.heap.size, j, none⟩) :
    ∀ j, (w1.setCell ⟨w.heap.size, 2, none⟩ v).cell? ⟨w.heap.size, j, none⟩ = World.cell? (w.alloc (.cells #[a, b, v, d] t)) ⟨w.heap.size, j, none⟩ := by
  intro j
  have h1 : ∀ (q : Array Value), World.cell? (w.alloc (.cells q t)) ⟨w.heap.size, j, none⟩ = q[j]? := fun q => cell_of_row _ _ _ _ _ _ (heap_alloc_new w _)
  by_cases hj : j = 2
  · subst hj
    rw [World.cell?_setCell_same _ _ _ (u := c) (by simp [h, h1]), h1]
    try rfl
  · rw [World.cell?_setCell_other _ _ _ _ (by intro e; injection e; omega), h, h1, h1]
    match j, hj with
    | 0, _ => rfl
    | 1, _ => rfl
    | 3, _ => rfl
    | j + 4, _ => rfl

/-- What a copy of a row of polls is, read by any reading. -/
theorem clone_rows (R : List Value → PollD → Prop) (h1 : ∀ cs x, R cs x → ∀ u ∈ cs, u.oneCell' = true) (o : Option Addr) (n c : Nat) (xs : List PollD) (w : World) (h : Row w 16 R (.slice o n c) xs) (hn : n ≤ 100) :
    Calls Try.prog 17 #[.slice o n c] w fun e w' => ∃ v news, e = .returned v ∧ w'.ownsRow w.heap.size 64 16 v n news ∧ (∀ (i : Nat) (x : PollD), xs[i]? = some x → R ((news.drop (i * 16)).take 16) x) ∧ Below w.heap.size w w' := by
  obtain ⟨news, h1, h2, h3, h4⟩ := h.all h1
  cases o with
  | none =>
    obtain ⟨rfl, rfl, rfl⟩ := h.nil_
    refine (clone_nil w).mono ?_
    rintro e w' ⟨rfl, rfl⟩
    exact ⟨_, [], rfl, World.ownsRow_nil .., fun i x hx => by simp at hx, Below.refl _ _⟩
  | some a =>
    refine (clone_some a n c w hn news h1 h2 (h3 a rfl)).mono ?_
    rintro e w' ⟨v, rfl, h5, _, h6⟩
    exact ⟨v, news, rfl, h5, h4, h6⟩

theorem set_four {w : World} {g : Nat} {a b c d : Value} (h : ∀ j, j < 4 → ∃ u, w.cell? ⟨g, j, none⟩ = some u) (j : Nat) (y : Value) (hj : [a, b, c, d][j]? = some y) :
    ((((w.setCell ⟨g, 0, none⟩ a).setCell ⟨g, 1, none⟩ b).setCell ⟨g, 2, none⟩ c).setCell ⟨g, 3, none⟩ d).cell? ⟨g, j, none⟩ = some y := by
  obtain ⟨u0, h0⟩ := h 0 (by decide)
  obtain ⟨u1, h1⟩ := h 1 (by decide)
  obtain ⟨u2, h2⟩ := h 2 (by decide)
  obtain ⟨u3, h3⟩ := h 3 (by decide)
  have o : ∀ (w : World) (i j : Nat) (v : Value), i ≠ j → (w.setCell ⟨g, i, none⟩ v).cell? ⟨g, j, none⟩ = w.cell? ⟨g, j, none⟩ := fun w i j v hij => World.cell?_setCell_other _ _ _ _ (by intro e; injection e; omega)
  match j, hj with
  | 0, hj => cases hj; rw [o _ _ _ _ (by decide), o _ _ _ _ (by decide), o _ _ _ _ (by decide)]; exact World.cell?_setCell_same _ _ _ h0
  | 1, hj => cases hj; rw [o _ _ _ _ (by decide), o _ _ _ _ (by decide)]; exact World.cell?_setCell_same _ _ _ (u := u1) (by rw [o _ _ _ _ (by decide), h1])
  | 2, hj => cases hj; rw [o _ _ _ _ (by decide)]; exact World.cell?_setCell_same _ _ _ (u := u2) (by rw [o _ _ _ _ (by decide), o _ _ _ _ (by decide), h2])
  | 3, hj => cases hj; exact World.cell?_setCell_same _ _ _ (u := u3) (by rw [o _ _ _ _ (by decide), o _ _ _ _ (by decide), o _ _ _ _ (by decide), h3])
  | j + 4, hj => simp at hj

structure TR (w : World) (a : Int) (x : StateD) (A A' : Array Value) (v : Value) (n k c : Nat) (ns : List Value) (wr : World) : Prop where
  kn : k ≤ n
  ct : c = (x.polls.take k).countP (PollD.due a)
  kA : ∀ j, wr.cell? ⟨w.heap.size, j, none⟩ = World.cell? (w.alloc (.cells A 26)) ⟨w.heap.size, j, none⟩
  kB : ∀ j, wr.cell? ⟨w.heap.size + 1, j, none⟩ = World.cell? ((w.alloc (.cells A' 26)).alloc (.cells #[.int .i64 0, .slice none 0 0, .slice none 0 0, .slice none 0 0] 26)) ⟨w.heap.size + 1, j, none⟩
  zB : ∀ j, World.frozen? wr ⟨w.heap.size + 1, j, none⟩ = false
  own : wr.ownsRow (w.heap.size + 2) 64 16 v n ns
  rd : ∀ (i : Nat) p, x.polls[i]? = some p → rPoll w ((ns.drop (i * 16)).take 16) (if i < k then p.tick a else p)
  below : Below w.heap.size w wr
  size : w.heap.size + 2 ≤ wr.heap.size

theorem TR.alloc {w : World} {a : Int} {x : StateD} {A A' : Array Value} {v : Value} {n k c : Nat} {ns : List Value} {wr : World} (h : TR w a x A A' v n k c ns wr) (o : Obj) : TR w a x A A' v n k c ns (wr.alloc o) :=
  ⟨h.kn, h.ct, fun j => (World.cell?_alloc_lt _ _ _ (by have := h.size; show w.heap.size < _; omega)).trans (h.kA j), fun j => (World.cell?_alloc_lt _ _ _ (by have := h.size; show w.heap.size + 1 < _; omega)).trans (h.kB j),
    fun j => (World.frozen?_of_block (Below.heap_alloc wr o (w.heap.size + 1) (by have := h.size; omega))).trans (h.zB j), h.own.alloc o, h.rd, h.below.alloc (by have := h.size; omega) o, by have := h.size; simp; omega⟩

theorem tick_skip {a : Int} {p : PollD} (h : p.due a = false) : p.tick a = p := by simp [PollD.tick, h]
theorem tick_due {a : Int} {p : PollD} (h : p.due a = true) : p.tick a = { p with state := 4 } := by simp [PollD.tick, h]

theorem TR.skip {w : World} {a : Int} {x : StateD} {A A' : Array Value} {v : Value} {n k c : Nat} {ns : List Value} {wr : World} (h : TR w a x A A' v n k c ns wr) (hk : k < n) {y : PollD} (hy : x.polls[k]? = some y) (hd : y.due a = false) :
    TR w a x A A' v n (k + 1) c ns wr :=
  ⟨hk, by rw [List.take_add_one, hy]; simp [hd, h.ct], h.kA, h.kB, h.zB, h.own, fun i p hp => by
    by_cases hi : i = k
    · subst hi
      have := h.rd i p hp
      rw [if_neg (Nat.lt_irrefl i)] at this
      rw [hy] at hp; cases hp
      rw [if_pos (Nat.lt_succ_self i), tick_skip hd]; exact this
    · have := h.rd i p hp
      by_cases hl : i < k
      · rw [if_pos hl] at this; rw [if_pos (by omega)]; exact this
      · rw [if_neg hl] at this; rw [if_neg (by omega)]; exact this, h.below, h.size⟩

theorem rPoll.expired {w : World} {cs : List Value} {p : PollD} (h : rPoll w cs p) : rPoll w (cs.set 14 (.int .i64 4)) { p with state := 4 } := by
  obtain ⟨qq, qs, qv, rfl, a1, a2, a3, _, a5, ⟨qm, qy, qa, qp, rfl, b1, b2, b3, b4, b5, c1⟩, d1, d2⟩ := h
  exact ⟨_, qs, qv, by simp only [List.cons_append, List.nil_append, List.set_cons_succ, List.set_cons_zero], a1, a2, a3, (show wfi .i64 4 from ⟨by decide, by decide⟩), a5, ⟨qm, qy, qa, qp, rfl, b1, b2, b3, b4, b5, c1⟩, d1, d2⟩

theorem part_same (ns : List Value) (u : Value) (k : Nat) : ((ns.set (k * 16 + 14) u).drop (k * 16)).take 16 = ((ns.drop (k * 16)).take 16).set 14 u := by
  apply List.ext_getElem?
  intro j
  simp only [List.getElem?_take, List.getElem?_drop, List.getElem?_set, List.length_take, List.length_drop]
  by_cases h1 : j < 16 <;> by_cases h2 : 14 = j
  · subst h2
    simp only [if_pos h1]
    by_cases h3 : k * 16 + 14 < ns.length
    · simp [h3, show 14 < min 16 (ns.length - k * 16) by omega]
    · simp [h3]; omega
  · simp [h1, h2]
  · omega
  · simp [h1, h2]
theorem part_other (ns : List Value) (u : Value) (k i : Nat) (h : i ≠ k) : ((ns.set (k * 16 + 14) u).drop (i * 16)).take 16 = (ns.drop (i * 16)).take 16 := by
  apply List.ext_getElem?
  intro j
  simp only [List.getElem?_take, List.getElem?_drop, List.getElem?_set]
  by_cases h1 : j < 16
  · simp only [if_pos h1]
    rw [if_neg (by omega)]
  · simp [h1]

theorem TR.store {w : World} {a : Int} {x : StateD} {A A' : Array Value} {g cap : Nat} {n k c : Nat} {ns : List Value} {wr : World} (h : TR w a x A A' (.slice (some ⟨g, 0, none⟩) n cap) n k c ns wr) (hk : k < n) {y : PollD} (hy : x.polls[k]? = some y) (hd : y.due a = true) :
    TR w a x A A' (.slice (some ⟨g, 0, none⟩) n cap) n (k + 1) (c + 1) (ns.set (k * 16 + 14) (.int .i64 4)) (wr.setCell ⟨g, k * 16 + 14, none⟩ (.int .i64 4)) := by
  obtain ⟨ho, hg⟩ := h.own.stored (k * 16 + 14) (.int .i64 4)
  have hg2 := (h.own.lt g rfl).1
  refine ⟨hk, by rw [List.take_add_one, hy]; simp [hd, h.ct], fun j => (World.cell?_setCell_other _ _ _ _ (by intro e; injection e; omega)).trans (h.kA j), fun j => (World.cell?_setCell_other _ _ _ _ (by intro e; injection e; omega)).trans (h.kB j),
    fun j => (World.frozen?_of_block (Below.heap_setCell _ _ _ _ (by show w.heap.size + 1 ≠ g; omega))).trans (h.zB j), ho, fun i p hp => ?_, h.below.setCell (by show w.heap.size ≤ g; omega) _, by have := h.size; have := hg.size; omega⟩
  have hr := h.rd i p hp
  by_cases hi : i = k
  · subst hi
    rw [if_neg (Nat.lt_irrefl i)] at hr
    rw [hy] at hp; cases hp
    rw [if_pos (Nat.lt_succ_self i), tick_due hd, part_same]
    exact hr.expired
  · rw [part_other _ _ _ _ hi]
    by_cases hl : i < k
    · rw [if_pos hl] at hr; rw [if_pos (by omega)]; exact hr
    · rw [if_neg hl] at hr; rw [if_neg (by omega)]; exact hr

theorem size26 : (Try.prog.info? 26).map (·.size) = some 4 := by kernel_rfl

theorem tick_bad (cs : List Value) (x : StateD) (w : World) (h : rState w cs x) (a : Int) (hb : a < x.clock ∨ 158310720 < a) :
    Calls Try.prog 7 #[.agg cs.toArray, .int .i64 a] w fun e w' => e = .returned (.tuple #[.agg cs.toArray, .int .u64 0, .int .i64 2]) ∧ Below w.heap.size w w' := by
  obtain ⟨u, p, d, rfl, _, hu, hp, hd⟩ := h
  obtain ⟨o1, n1, c1, rfl, l1, _, _, R1⟩ := hu.open
  obtain ⟨o2, n2, c2, rfl, l2, _, _, _⟩ := hp.open
  obtain ⟨o3, n3, c3, rfl, l3, _, _, _⟩ := hd.open
  clear hu hp hd R1 l1 l2 l3
  by_cases h1 : a < x.clock
  · have d1 := decide_eq_true h1
    clear hb
    go_enter Try.func7, Try.ntmps7
    go_wp2_with fail
    (try simp only [Exit.inBlock, Exit.then])
    refine bodyPost_ret (results_box rfl _ _ _ [.int .i64 x.clock, .slice o1 n1 c1, .slice o2 n2 c2, .slice o3 n3 c3] _ rfl (fun j y hj => (cell_of_row _ _ _ _ _ _ (heap_alloc2_new w _ _)).trans (by simpa using hj)) Try.underlying26 rfl size26) rfl ?_
    exact ⟨rfl, ((Below.refl _ _).alloc (Nat.le_refl _) _).alloc (by simp) _⟩
  · have d1 := decide_eq_false h1
    have h2 : 158310720 < a := hb.resolve_left h1
    have d2 := decide_eq_true h2
    clear hb
    go_enter Try.func7, Try.ntmps7
    go_wp2_with fail
    (try simp only [Exit.inBlock, Exit.then])
    refine bodyPost_ret (results_box rfl _ _ _ [.int .i64 x.clock, .slice o1 n1 c1, .slice o2 n2 c2, .slice o3 n3 c3] _ rfl (fun j y hj => (cell_of_row _ _ _ _ _ _ (heap_alloc2_new w _ _)).trans (by simpa using hj)) Try.underlying26 rfl size26) rfl ?_
    exact ⟨rfl, ((Below.refl _ _).alloc (Nat.le_refl _) _).alloc (by simp) _⟩

set_option maxHeartbeats 8000000 in
theorem tick_any (cs : List Value) (x : StateD) (w : World) (h : rState w cs x) (a : Int) (wa : wfi .i64 a) (g1 : ¬ a < x.clock) (g2 : ¬ 158310720 < a) (hn : x.polls.length ≤ 100) :
    Calls Try.prog 7 #[.agg cs.toArray, .int .i64 a] w fun e w' => ∃ cs', e = .returned (.tuple #[.agg (Array.mk cs'), .int .u64 (x.polls.countP (PollD.due a) : Nat), .int .i64 0]) ∧ rState w' cs' (x.tick a) ∧ Below w.heap.size w w' := by
  have SW := Lib.hid h
  obtain ⟨u, p, d, rfl, _, hu, hp, hd⟩ := h
  obtain ⟨o1, n1, c1, rfl, l1, _, _, R1⟩ := hu.open
  obtain ⟨o2, n2, c2, rfl, l2, _, _, R2⟩ := hp.open
  obtain ⟨o3, n3, c3, rfl, l3, _, _, R3⟩ := hd.open
  have d1 := decide_eq_false g1
  have d2 := decide_eq_false g2
  have S2 := Lib.hid R2; have L2 := Lib.hid l2
  have HB := Lib.hid (show Below w.heap.size w ((w.alloc (.cells #[.int .i64 a, .slice o1 n1 c1, .slice o2 n2 c2, .slice o3 n3 c3] 26)).alloc (.cells #[.int .i64 0, .slice none 0 0, .slice none 0 0, .slice none 0 0] 26)) from ((Below.refl _ _).alloc (Nat.le_refl _) _).alloc (by simp) _)
  have C := Lib.hid (fun (W : World) (hb : Below w.heap.size w W) => clone_rows (rPoll w) (poll_one w) o2 n2 c2 x.polls W (S2.out.later hb fun _ _ h => h) (by have := L2.out; omega))
  clear hu hp hd R1 R2 R3 l1 l2 l3
  go_enter Try.func7, Try.ntmps7
  go_wp2_with fail
  (with_reducible refine (C.out _ HB.out).mono ?_)
  rintro e w1 ⟨v, news, rfl, hown, hnews, hb1⟩
  have kA1 : ∀ j, World.cell? w1 ⟨w.heap.size, j, none⟩ = World.cell? (w.alloc (.cells #[.int .i64 a, .slice o1 n1 c1, .slice o2 n2 c2, .slice o3 n3 c3] 26)) ⟨w.heap.size, j, none⟩ := fun j => (hb1.cell (by simp; omega)).trans (World.cell?_alloc_lt _ _ _ (by simp))
  have kB1 : ∀ j, World.cell? w1 ⟨w.heap.size + 1, j, none⟩ = World.cell? ((w.alloc (.cells #[.int .i64 a, .slice o1 n1 c1, .slice o2 n2 c2, .slice o3 n3 c3] 26)).alloc (.cells #[.int .i64 0, .slice none 0 0, .slice none 0 0, .slice none 0 0] 26)) ⟨w.heap.size + 1, j, none⟩ := fun j => hb1.cell (by simp)
  have zA1 : ∀ j, World.frozen? w1 ⟨w.heap.size, j, none⟩ = false := fun j => (hb1.frozen (by simp; omega)).trans (frozen_of_row _ _ _ _ _ (heap_alloc2_old w _ _))
  have zB1 : ∀ j, World.frozen? w1 ⟨w.heap.size + 1, j, none⟩ = false := fun j => (hb1.frozen (by simp)).trans (frozen_of_row _ _ _ _ _ (heap_alloc2_new w _ _))
  have HO := Lib.hid hown; have HNW := Lib.hid hnews; have HB1 := Lib.hid hb1
  obtain ⟨o, cap, rfl⟩ : ∃ o cap, v = .slice o n2 cap := by
    rcases hown.2 with ⟨rfl, rfl⟩ | ⟨g, cap, _, rfl, _⟩
    · exact ⟨_, _, rfl⟩
    · exact ⟨_, _, rfl⟩
  have kO : ∀ k, k < n2 → o ≠ none := by
    rintro k hk rfl
    rcases hown.2 with ⟨_, rfl⟩ | ⟨g, cap, _, e, _⟩
    · omega
    · simp at e
  have KO := Lib.hid kO
  clear hown hnews hb1 kO
  go_wp2_with fail
  go_loopw [7, 28] (fun s b wr => ∃ (k c : Nat) (ns : List Value), b = .int .i64 k ∧ s = .int .u64 c ∧ TR w a x #[.int .i64 a, .slice o1 n1 c1, .slice o n2 cap, .slice o3 n3 c3] #[.int .i64 a, .slice o1 n1 c1, .slice o2 n2 c2, .slice o3 n3 c3] (.slice o n2 cap) n2 k c ns wr) (fun _ b _ => n2 - (intOf b).toNat)
  case atStart =>
    refine ⟨0, 0, news, rfl, rfl, Nat.zero_le _, by simp, set_two kA1, ?_, ?_, ?_, ?_, ?_, ?_⟩
    · exact fun j => (World.cell?_setCell_other _ _ _ _ (by simp)).trans (kB1 j)
    · exact fun j => (World.frozen?_of_block (Below.heap_setCell _ _ _ _ (by simp))).trans (zB1 j)
    · exact ownsRow_setCell_below ⟨HO.out.1, HO.out.2.imp id fun ⟨g, cap, cur, h1, h2, h3⟩ => ⟨g, cap, cur, h1, Nat.le_trans (by simp) h2, h3⟩⟩ (by show w.heap.size < _; omega) _
    · exact fun i p hp => by rw [if_neg (by omega)]; exact HNW.out i p hp
    · exact ((below_call HB.out HB1.out)).setCell (Nat.le_refl _) _
    · have := HB1.out.size
      simp at this ⊢
      omega
  case round =>
    clear kA1 kB1 zA1 zB1
    obtain ⟨k, c, ns, rfl, rfl, htr⟩ := hrel
    obtain ⟨wl, rfl⟩ : ∃ x, x = wr := ⟨_, rfl⟩
    have T := Lib.hid htr
    have kA := htr.kA
    have kB := htr.kB
    have zB := htr.zB
    have hk := htr.kn
    have hM : n2 ≤ 100 := by have := L2.out; omega
    have hz1 : w.heap.size < wl.heap.size := by have := htr.size; omega
    have hz2 : w.heap.size + 1 < wl.heap.size := by have := htr.size; omega
    clear htr
    by_cases hlt : k < n2
    · have hlt' : (k : Int) < (n2 : Int) := by omega
      obtain ⟨g, rfl⟩ : ∃ g, o = some ⟨g, 0, none⟩ := by
        rcases T.out.own.2 with ⟨e, _⟩ | ⟨g, _, _, e, _⟩
        · simp at e; exact absurd e.1 (KO.out k hlt)
        · simp only [Value.slice.injEq] at e; exact ⟨g, e.1⟩
      obtain ⟨y, hy⟩ : ∃ y, x.polls[k]? = some y := ⟨_, List.getElem?_eq_getElem (by rw [L2.out]; exact hlt)⟩
      have hk1 := T.out.rd k y hy
      rw [if_neg (Nat.lt_irrefl k)] at hk1
      obtain ⟨qq, qs, qv, e, _, _, _, _, _, ⟨qm, qy, qa, qp, rfl, _, _, _, _, _, ⟨om, nm, cm, rfl, _⟩, ⟨oy, ny, cy, rfl, _⟩, ⟨oa, na, ca, rfl, _⟩, ⟨op, np, cp, rfl, _⟩⟩, ⟨os, ns', cs', rfl, _⟩, ⟨ov, nv, cv, rfl, _⟩⟩ := hk1
      simp only [List.cons_append, List.nil_append] at e
      have hcell : ∀ j, j < 16 → wl.cell? ⟨g, k * 16 + j, none⟩ = ((ns.drop (k * 16)).take 16)[j]? := fun j hj => by
        rw [T.out.own.cellAt _ (by omega), List.getElem?_take, if_pos hj, List.getElem?_drop]
      rw [e] at hcell
      have e0 := hcell 0 (by decide)
      have e1 := hcell 1 (by decide)
      have e2 := hcell 2 (by decide)
      have e3 := hcell 3 (by decide)
      have e4 := hcell 4 (by decide)
      have e5 := hcell 5 (by decide)
      have e6 := hcell 6 (by decide)
      have e7 := hcell 7 (by decide)
      have e8 := hcell 8 (by decide)
      have e9 := hcell 9 (by decide)
      have e10 := hcell 10 (by decide)
      have e11 := hcell 11 (by decide)
      have e12 := hcell 12 (by decide)
      have e13 := hcell 13 (by decide)
      have e14 := hcell 14 (by decide)
      have e15 := hcell 15 (by decide)
      simp only [List.getElem?_cons_zero, List.getElem?_cons_succ, Nat.add_zero] at e0 e1 e2 e3 e4 e5 e6 e7 e8 e9 e10 e11 e12 e13 e14 e15
      have hgz : g < wl.heap.size := (T.out.own.lt g rfl).2
      have hfz : World.frozen? wl ⟨g, k * 16 + 14, none⟩ = false := T.out.own.frozenAt _
      have hc100 : c ≤ 100 := by
        have h1 := T.out.ct
        have h2 := List.countP_le_length (p := PollD.due a) (l := x.polls.take k)
        have h3 := L2.out
        simp at h2
        omega
      have hwr : (IntKind.u64).wrap ((c : Int) + 1) = ((c + 1 : Nat) : Int) := by rw [IntKind.wrap_u64]; omega
      have Hy := Lib.hid hy
      clear hcell hy e
      by_cases s1 : y.state = 1
      · rw [s1] at e14
        by_cases s3 : y.until_ ≤ a
        · have D := Lib.hid (show y.due a = true by simp [PollD.due, s1, s3])
          have d3 := decide_eq_true s3
          go_wp2_with fail
          go_roundw
          case measure => simp [intOf]; omega
          case rel => exact ⟨k + 1, c + 1, _, by go_num, rfl, (T.out.store hlt Hy.out D.out).alloc _⟩
        · have D := Lib.hid (show y.due a = false by simp [PollD.due, s1, s3])
          have d3 := decide_eq_false s3
          go_wp2_with fail
          go_roundw
          case measure => simp [intOf]; omega
          case rel => exact ⟨k + 1, c, _, by go_num, rfl, (T.out.skip hlt Hy.out D.out).alloc _⟩
      · have b1 : (y.state == 1) = false := by simpa using s1
        by_cases s2 : y.state = 2
        · rw [s2] at e14
          clear b1
          by_cases s3 : y.until_ ≤ a
          · have D := Lib.hid (show y.due a = true by simp [PollD.due, s2, s3])
            have d3 := decide_eq_true s3
            go_wp2_with fail
            go_roundw
            case measure => simp [intOf]; omega
            case rel => exact ⟨k + 1, c + 1, _, by go_num, rfl, (T.out.store hlt Hy.out D.out).alloc _⟩
          · have D := Lib.hid (show y.due a = false by simp [PollD.due, s2, s3])
            have d3 := decide_eq_false s3
            go_wp2_with fail
            go_roundw
            case measure => simp [intOf]; omega
            case rel => exact ⟨k + 1, c, _, by go_num, rfl, (T.out.skip hlt Hy.out D.out).alloc _⟩
        · have b2 : (y.state == 2) = false := by simpa using s2
          have D := Lib.hid (show y.due a = false by simp [PollD.due, s1, s2])
          go_wp2_with fail
          go_roundw
          case measure => simp [intOf]; omega
          case rel => exact ⟨k + 1, c, _, by go_num, rfl, (T.out.skip hlt Hy.out D.out).alloc _⟩
    · obtain rfl : n2 = k := by omega
      go_wp2_with fail
      (try simp only [Exit.inBlock, Exit.then])
      refine bodyPost_ret (results_box rfl _ _ _ [.int .i64 a, .slice o1 n1 c1, .slice o n2 cap, .slice o3 n3 c3] _ rfl (fun j y hj => ?_) Try.underlying26 rfl size26) rfl ?_
      · refine set_four (fun i hi => ?_) j y hj
        rw [T.out.kB i, cell_of_row _ _ _ _ _ _ (heap_alloc2_new w _ _)]
        exact ⟨_, Array.getElem?_eq_getElem hi⟩
      · have hct := T.out.ct
        rw [List.take_of_length_le (by rw [L2.out]; exact Nat.le_refl _)] at hct
        have hb : Below w.heap.size w ((((wl.setCell ⟨w.heap.size + 1, 0, none⟩ (.int .i64 a)).setCell ⟨w.heap.size + 1, 1, none⟩ (.slice o1 n1 c1)).setCell ⟨w.heap.size + 1, 2, none⟩ (.slice o n2 cap)).setCell ⟨w.heap.size + 1, 3, none⟩ (.slice o3 n3 c3)) :=
          (((T.out.below.setCell (by simp) _).setCell (by simp) _).setCell (by simp) _).setCell (by simp) _
        have ho := ownsRow_setCell_below (ownsRow_setCell_below (ownsRow_setCell_below (ownsRow_setCell_below T.out.own (a := ⟨w.heap.size + 1, 0, none⟩) (by simp) (.int .i64 a)) (a := ⟨w.heap.size + 1, 1, none⟩) (by simp) (.slice o1 n1 c1)) (a := ⟨w.heap.size + 1, 2, none⟩) (by simp) (.slice o n2 cap)) (a := ⟨w.heap.size + 1, 3, none⟩) (by simp) (.slice o3 n3 c3)
        obtain ⟨u', p', d', e', _, hu', _, hd'⟩ := SW.out
        simp only [List.cons.injEq] at e'
        obtain ⟨_, rfl, rfl, rfl, _⟩ := e'
        refine ⟨[.int .i64 a, .slice o1 n1 c1, .slice o n2 cap, .slice o3 n3 c3], by rw [hct]; rfl, ⟨_, _, _, rfl, wa, hu'.later hb fun _ _ => rUser.later hb, ?_, hd'.later' hb⟩, hb⟩
        refine Row.of_own ho (by simp [StateD.tick, L2.out]) fun i z hz => ?_
        simp only [StateD.tick, List.getElem?_map, Option.map_eq_some_iff] at hz
        obtain ⟨p, hp, rfl⟩ := hz
        have hr := T.out.rd i p hp
        rw [if_pos (by have := (List.getElem?_eq_some_iff.1 hp).1; have := L2.out; omega)] at hr
        exact hr.later hb
end Go.Proofs.Ytcleicjgeflbnaa
