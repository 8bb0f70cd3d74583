/- The walk of Close. Conditions: there is such a poll of the caller's, it is open, the polls' numbers rise, there are at most a hundred. -/
import Derived.Test.YtcleicjgeflbnaaG24
import Derived.Test.YtcleicjgeflbnaaG22
import Derived.Deep.RegionHeld3
import Derived.Deep.DrawnRows
import Derived.Deep.MidRow
import Derived.Deep.Cut
namespace Go.Proofs.Ytcleicjgeflbnaa
open Go.RowKit Go.ChangeShapes Go.WideShapes Go.Deep
attribute [local go_sem ↓] Go.wp_at_zero Go.wp_at_succ

/-- The winner among the first places. -/
def PollD.winTo (y : PollD) : Nat → Nat
  | 0 => 0
  | m + 1 => if y.yes (y.winTo m) < y.yes m then m else y.winTo m
def PollD.closed (y : PollD) (k : Nat) : PollD := { y with state := 2, winner := (k : Int) }
theorem size54 : (Try.prog.info? 54).map (·.size) = some 42 := by kernel_rfl
theorem heap_alloc3_mid (w : World) (A B C : Obj) : (((w.alloc A).alloc B).alloc C).heap[w.heap.size + 1]? = some B :=
  (heap_alloc_old _ _ (by simp)).trans (heap_alloc2_new w A B)
theorem heap_alloc3_old (w : World) (A B C : Obj) : (((w.alloc A).alloc B).alloc C).heap[w.heap.size]? = some A :=
  (heap_alloc_old _ _ (by simp; omega)).trans (heap_alloc2_old w A B)
theorem range_of_row {w : World} {g : Nat} {cs : List Value} {t : TypeId} {fr : Nat × Nat} (h : w.heap[g]? = some (.cells cs.toArray t fr)) : w.rangeAt g 0 cs := fun j v hj => by
  rw [Nat.zero_add, cell_of_row _ _ _ _ _ _ h]; simpa using hj

/-- What stands in memory while Close goes through the places: b, b + 2, g are blocks of its own, L the poll's cells. -/
structure CI (w : World) (b g : Nat) (S Z : Array Value) (L : List Value) (p : PollD) (W : World) : Prop where
  rg : W.heap[g]? = some (.cells L.toArray 64 (0, 0))
  ha : W.heap[b]? = some (.cells S 26 (0, 0))
  hc : W.heap[b + 1 + 1]? = some (.cells Z 26 (0, 0))
  rd : rPoll w L p
  below : Below w.heap.size w W
theorem CI.later {w W W' : World} {b g : Nat} {S Z : Array Value} {L : List Value} {p : PollD} (h : CI w b g S Z L p W) (hb : Below W.heap.size W W') : CI w b g S Z L p W' :=
  ⟨(hb.block _ (Array.getElem?_eq_some_iff.1 h.rg).1).trans h.rg, (hb.block _ (Array.getElem?_eq_some_iff.1 h.ha).1).trans h.ha, (hb.block _ (Array.getElem?_eq_some_iff.1 h.hc).1).trans h.hc, h.rd, below_call h.below hb⟩
theorem yes_ci {w W : World} {b g : Nat} {S Z : Array Value} {L : List Value} {p : PollD} (s : Int) (h : CI w b g S Z L p W) :
    Calls Try.prog 28 #[.agg L.toArray, .int .i64 s] W fun e w' => e = .returned (.int .i64 (p.yes s : Nat)) ∧ CI w b g S Z L p w' := by
  refine (yes_any L p s W (h.rd.later h.below)).mono ?_
  rintro e w' ⟨rfl, hb⟩
  exact ⟨rfl, h.later hb⟩

theorem PollD.winTo_le (y : PollD) : ∀ m, y.winTo m ≤ m
  | 0 => Nat.le_refl _
  | m + 1 => by
    rw [PollD.winTo]
    split
    · omega
    · exact Nat.le_succ_of_le (y.winTo_le m)
theorem wfi_nat (k : Nat) (h : k < 9223372036854775808) : wfi .i64 (k : Int) := by
  have h1 : IntKind.i64.min = -9223372036854775808 := by decide
  have h2 : IntKind.i64.max = 9223372036854775807 := by decide
  exact ⟨by omega, by omega⟩
theorem rPoll.len {w : World} {cs : List Value} {p : PollD} (h : rPoll w cs p) : cs.length = 16 := by
  obtain ⟨qq, qs, qv, rfl, _, _, _, _, _, ⟨qm, qy, qa, qp, rfl, _, _, _, _, _, ⟨om, nm, cm, rfl, _⟩, ⟨oy, ny, cy, rfl, _⟩, ⟨oa, na, ca, rfl, _⟩, ⟨op, np, cp, rfl, _⟩⟩, ⟨os, ns', cs', rfl, _⟩, ⟨ov, nv, cv, rfl, _⟩⟩ := h
  rfl
theorem far4 {w : World} {g g' : Nat} (j : Nat) (h : g ≠ g') (a b c d : Value) : ((((w.setCell ⟨g, 0, none⟩ a).setCell ⟨g, 1, none⟩ b).setCell ⟨g, 2, none⟩ c).setCell ⟨g, 3, none⟩ d).cell? ⟨g', j, none⟩ = w.cell? ⟨g', j, none⟩ := by
  have o : ∀ (w : World) (i : Nat) (v : Value), (w.setCell ⟨g, i, none⟩ v).cell? ⟨g', j, none⟩ = w.cell? ⟨g', j, none⟩ := fun w i v => World.cell?_setCell_other _ _ _ _ (by intro e; injection e; omega)
  rw [o, o, o, o]
theorem with_ci {w W : World} {b g : Nat} {S : List Value} {L : List Value} {p y : PollD} {x : StateD} (h : CI w b g S.toArray #[.int .i64 0, .slice none 0 0, .slice none 0 0, .slice none 0 0] L p W) (hs : rState w S x) (hr : rises (·.id) x.polls) (hn : x.polls.length ≤ 100) (i : Nat) (hi : x.polls[i]? = some y) (hid : y.id = p.id) :
    Calls Try.prog 27 #[.agg S.toArray, .agg L.toArray] W fun e w' => ∃ p1 q1 r1 p2 q2 r2 p3 q3 r3, e = .returned (.agg #[.int .i64 x.clock, .slice p1 q1 r1, .slice p2 q2 r2, .slice p3 q3 r3]) ∧
      (∀ j : Nat, w'.cell? ⟨b, j, none⟩ = W.cell? ⟨b, j, none⟩) ∧ (∀ j : Nat, w'.cell? ⟨g, j, none⟩ = W.cell? ⟨g, j, none⟩) ∧ w'.cell? ⟨b + 1 + 1, 0, none⟩ = some (.int .i64 0) ∧ w'.cell? ⟨b + 1 + 1, 1, none⟩ = some (.slice none 0 0) ∧ w'.cell? ⟨b + 1 + 1, 2, none⟩ = some (.slice none 0 0) ∧ w'.cell? ⟨b + 1 + 1, 3, none⟩ = some (.slice none 0 0) ∧ (∀ j, World.frozen? w' ⟨b + 1 + 1, j, none⟩ = false) ∧
      Hid (b + 1 + 1 < W.heap.size ∧ (∀ w'', Below w.heap.size w w'' → (∀ k, W.heap.size ≤ k → k < w'.heap.size → w''.heap[k]? = w'.heap[k]?) → rState w'' [.int .i64 x.clock, .slice p1 q1 r1, .slice p2 q2 r2, .slice p3 q3 r3] { x with polls := x.polls.set i p }) ∧ Below w.heap.size w w') := by
  refine (with_at S L x p w W h.below hs h.rd hr hn i y hi hid).mono ?_
  rintro e w' ⟨cs', rfl, hrd, hb⟩
  have hbb := below_call h.below hb
  have hh := hrd w' hbb (fun _ _ _ => rfl)
  obtain ⟨u, vp, d, rfl, _, ⟨p1, q1, r1, rfl, _⟩, ⟨p2, q2, r2, rfl, _⟩, ⟨p3, q3, r3, rfl, _⟩⟩ := hh
  have h' := h.later hb
  exact ⟨p1, q1, r1, p2, q2, r2, p3, q3, r3, rfl, fun j => hb.cell (Array.getElem?_eq_some_iff.1 h.ha).1, fun j => hb.cell (Array.getElem?_eq_some_iff.1 h.rg).1, by rw [cell_of_row _ _ _ _ _ _ h'.hc]; rfl, by rw [cell_of_row _ _ _ _ _ _ h'.hc]; rfl, by rw [cell_of_row _ _ _ _ _ _ h'.hc]; rfl, by rw [cell_of_row _ _ _ _ _ _ h'.hc]; rfl, fun j => frozen_of_row _ _ _ _ _ h'.hc, (Array.getElem?_eq_some_iff.1 h.hc).1, hrd, hbb⟩
theorem rPoll.closed {w : World} {cs : List Value} {p : PollD} (h : rPoll w cs p) (k : Nat) (hk : wfi .i64 (k : Int)) : rPoll w ((cs.set 14 (.int .i64 2)).set 15 (.int .i64 (k : Int))) (p.closed k) := by
  obtain ⟨qq, qs, qv, rfl, a1, a2, a3, _, _, ⟨qm, qy, qa, qp, rfl, b1, b2, b3, b4, b5, c1⟩, d1, d2⟩ := h
  exact ⟨_, qs, qv, by simp only [List.cons_append, List.nil_append, List.set_cons_succ, List.set_cons_zero]; rfl, a1, a2, a3, (show wfi .i64 2 from ⟨by decide, by decide⟩), hk, ⟨qm, qy, qa, qp, rfl, b1, b2, b3, b4, b5, c1⟩, d1, d2⟩
theorem rPoll.win {w : World} {cs : List Value} {p : PollD} {m : Nat} (h : rPoll w cs (p.closed m)) (k : Nat) (hk : wfi .i64 (k : Int)) : rPoll w (cs.set 15 (.int .i64 (k : Int))) (p.closed k) := by
  obtain ⟨qq, qs, qv, rfl, a1, a2, a3, a4, _, ⟨qm, qy, qa, qp, rfl, b1, b2, b3, b4, b5, c1⟩, d1, d2⟩ := h
  exact ⟨_, qs, qv, by simp only [List.cons_append, List.nil_append, List.set_cons_succ, List.set_cons_zero]; rfl, a1, a2, a3, a4, hk, ⟨qm, qy, qa, qp, rfl, b1, b2, b3, b4, b5, c1⟩, d1, d2⟩
theorem rPoll.at15 {w : World} {cs : List Value} {p : PollD} (h : rPoll w cs p) : cs[15]? = some (.int .i64 p.winner) := by
  obtain ⟨qq, qs, qv, rfl, _, _, _, _, _, ⟨qm, qy, qa, qp, rfl, _, _, _, _, _, ⟨om, nm, cm, rfl, _⟩, ⟨oy, ny, cy, rfl, _⟩, ⟨oa, na, ca, rfl, _⟩, ⟨op, np, cp, rfl, _⟩⟩, ⟨os, ns', cs', rfl, _⟩, ⟨ov, nv, cv, rfl, _⟩⟩ := h
  rfl
theorem CI.drew {w W : World} {b g : Nat} {S Z : Array Value} {L : List Value} {p : PollD} (h : CI w b g S Z L p W) : CI w b g S Z L p W.drew := ⟨h.rg, h.ha, h.hc, h.rd, h.below.drew⟩
theorem CI.cell {w W : World} {b g j : Nat} {S Z : Array Value} {L : List Value} {p : PollD} {c : Value} (h : CI w b g S Z L p W) (hj : L[j]? = some c) : W.cell? ⟨g, j, none⟩ = some c := by
  rw [cell_of_row _ _ _ _ _ _ h.rg]; simpa using hj
theorem CI.range {w W : World} {b g : Nat} {S Z : Array Value} {L : List Value} {p : PollD} (h : CI w b g S Z L p W) : W.rangeAt g 0 L := range_of_row h.rg
theorem CI.win {w W : World} {b g : Nat} {S Z : Array Value} {L : List Value} {p : PollD} (h : CI w b g S Z L p W) : W.cell? ⟨g, 15, none⟩ = some (.int .i64 p.winner) := by
  have := h.range 15 _ h.rd.at15
  simpa using this
theorem yes_S {w W : World} {b g : Nat} {S Z : Array Value} {L : List Value} {p : PollD} (s : Int) (h : CI w b g S Z L p W) :
    Calls Try.prog 28 #[.agg L.toArray, .int .i64 s] W fun e w' => e = .returned (.int .i64 (p.yes s : Nat)) ∧ w'.rangeAt g 0 L ∧ w'.cell? ⟨g, 15, none⟩ = some (.int .i64 p.winner) ∧ CI w b g S Z L p w' := by
  refine (yes_ci s h).mono ?_
  rintro e w' ⟨rfl, h⟩
  exact ⟨rfl, h.range, h.win, h⟩
theorem CI.store {w W : World} {b g : Nat} {S Z : Array Value} {L : List Value} {p : PollD} {m : Nat} (h : CI w b g S Z L (p.closed m) W) (hw : w.heap.size ≤ g) (h1 : b ≠ g) (h2 : b + 1 + 1 ≠ g) (k : Nat) (hk : wfi .i64 (k : Int)) :
    CI w b g S Z (L.set 15 (.int .i64 (k : Int))) (p.closed k) (W.setCell ⟨g, 15, none⟩ (.int .i64 (k : Int))) :=
  ⟨by rw [heap_setCell_same W g 15 _ _ _ h.rg]; simp, (Below.heap_setCell _ _ _ _ h1).trans h.ha, (Below.heap_setCell _ _ _ _ h2).trans h.hc, h.rd.win k hk, h.below.setCell hw _⟩

set_option maxHeartbeats 8000000 in
set_option maxRecDepth 100000 in
theorem close_ok (cs : List Value) (A : Array Value) (x : StateD) (a : AskD) (w : World) (h : rState w cs x) (ha : AskA A a) (hr : rises (·.id) x.polls) (hn : x.polls.length ≤ 100) (i : Nat) (y : PollD) (hi : x.polls[i]? = some y) (hid : y.id = a.poll) (ho : y.owner = a.caller) (hs : y.state = 1) :
    Calls Try.prog 16 #[.agg cs.toArray, .agg A] w fun e w' => ∃ cs', e = .returned (.tuple #[.agg (Array.mk cs'), .int .u64 (y.winTo y.slots.length : Nat), .int .i64 0]) ∧ rState w' cs' { x with polls := x.polls.set i (y.closed (y.winTo y.slots.length)) } ∧ Below w.heap.size w w' := by
  have SW := Lib.hid h
  have SA := Lib.hid ha
  have HR := Lib.hid hr
  have HI := Lib.hid hi; have HID := Lib.hid hid; have HOe := Lib.hid ho; have HSe := Lib.hid hs
  have hsz := ha.size
  clear hr hi hid ho hs ha
  obtain ⟨u, vp, d, rfl, _, ⟨o1, n1, c1, rfl, _⟩, ⟨o2, n2, c2, rfl, _⟩, ⟨o3, n3, c3, rfl, _⟩⟩ := h
  have HB := Lib.hid (show Below w.heap.size w (((w.alloc (.cells #[.int .i64 x.clock, .slice o1 n1 c1, .slice o2 n2 c2, .slice o3 n3 c3] 26)).alloc (.cells A 54)).alloc (.cells #[.int .i64 0, .slice none 0 0, .slice none 0 0, .slice none 0 0] 26)) from (((Below.refl _ _).alloc (Nat.le_refl _) _).alloc (by simp) _).alloc (by simp; omega) _)
  have C := Lib.hid (fun (W : World) (hb : Below w.heap.size w W) => own_ok _ A x a 1 w W hb SW.out SA.out HR.out hn i y HI.out HID.out HOe.out HSe.out)
  go_enter Try.func16, Try.ntmps16
  go_upto_region 1 with fail
  refine wp_region_lit ?_
  refine wpList_load_row rfl 26 (.tmp 2) rfl w.heap.size rfl 26 #[.int .i64 x.clock, .slice o1 n1 c1, .slice o2 n2 c2, .slice o3 n3 c3] (0, 0) _ (heap_alloc3_old w _ _ _) Try.underlying26 rfl size26 ?_
  refine wpList_load_row rfl 54 (.tmp 3) rfl (w.heap.size + 1) rfl 54 A (0, 0) _ (heap_alloc3_mid w _ _ _) Try.underlying54 rfl (by rw [hsz]; exact size54) ?_
  go_wp2_with fail
  (with_reducible refine (C.out _ HB.out).mono ?_)
  rintro e wo ⟨cs0, he, hy, hb1⟩
  rw [show Array.mk cs0 = cs0.toArray from rfl] at he
  have SR := Lib.hid hy
  obtain ⟨qq, qs, qv, rfl, _, _, _, _, _, ⟨qm, qy, qa, qp, rfl, _, _, _, _, _, ⟨om, nm, cm, rfl, _⟩, ⟨oy, ny, cy, rfl, _⟩, ⟨oa, na, ca, rfl, _⟩, ⟨op, np, cp, rfl, _⟩⟩, hsl, ⟨ov, nv, cv, rfl, _⟩⟩ := hy
  obtain ⟨os, ns', cs', rfl, lsl, _, ksl, _⟩ := hsl.open
  have hM : ns' < 9223372036854775808 := by (unfold maxLen at ksl; omega)
  have LS := Lib.hid lsl
  clear hsl lsl
  simp only [List.cons_append, List.nil_append] at SR he
  rw [HOe.out, HSe.out] at SR he
  subst he
  have kA1 := (hb1.block w.heap.size (by simp; omega)).trans (heap_alloc3_old w _ _ _)
  have kC1 := (hb1.block (w.heap.size + 1 + 1) (by simp)).trans (heap_alloc3_new w _ _ _)
  have hz1 : w.heap.size + 3 ≤ wo.heap.size := Nat.le_trans (by simp) hb1.size
  have HB1 := Lib.hid (below_call HB.out hb1)
  have KA1 := Lib.hid kA1; have KC1 := Lib.hid kC1
  clear hb1 kA1 kC1
  go_wp2_with fail
  go_loopw [25] (fun sa wr => ∃ k : Nat, k ≤ ns' ∧ sa = .int .i64 k ∧ CI w w.heap.size wo.heap.size #[.int .i64 x.clock, .slice o1 n1 c1, .slice o2 n2 c2, .slice o3 n3 c3] #[.int .i64 0, .slice none 0 0, .slice none 0 0, .slice none 0 0] [.int .u32 y.id, .int .u32 a.caller, .int .i64 y.query.from_, .int .i64 y.query.to_, .int .i64 y.query.long, .int .i64 y.query.grid, .slice om nm cm, .slice oy ny cy, .int .i64 y.query.seats, .slice oa na ca, .slice op np cp, .slice os ns' cs', .slice ov nv cv, .int .i64 y.until_, .int .i64 2, .int .i64 ((y.winTo k : Nat) : Int)] (y.closed (y.winTo k)) wr) (fun sa _ => ns' - (intOf sa).toNat)
  case atStart =>
    refine ⟨0, Nat.zero_le _, rfl, heap_alloc_new _ _, (heap_alloc_old _ _ (by omega)).trans KA1.out, (heap_alloc_old _ _ (by omega)).trans KC1.out, SR.out.closed 0 ⟨by decide, by decide⟩, HB1.out.alloc (by omega) _⟩
  case round =>
    obtain ⟨k, hk, rfl, hci⟩ := hrel
    obtain ⟨wl, rfl⟩ : ∃ x, x = wr := ⟨_, rfl⟩
    have HC := Lib.hid hci
    by_cases hlt : k < ns'
    · have hlt' : (k : Int) < (ns' : Int) := by omega
      go_upto_region 8 with fail
      go_region_held3 (fun W' => W'.cell? ⟨wo.heap.size, 0, none⟩ = some (.int .u32 y.id) ∧ W'.cell? ⟨wo.heap.size, 1, none⟩ = some (.int .u32 a.caller) ∧ W'.cell? ⟨wo.heap.size, 2, none⟩ = some (.int .i64 y.query.from_) ∧ W'.cell? ⟨wo.heap.size, 3, none⟩ = some (.int .i64 y.query.to_) ∧ W'.cell? ⟨wo.heap.size, 4, none⟩ = some (.int .i64 y.query.long) ∧ W'.cell? ⟨wo.heap.size, 5, none⟩ = some (.int .i64 y.query.grid) ∧ W'.cell? ⟨wo.heap.size, 6, none⟩ = some (.slice om nm cm) ∧ W'.cell? ⟨wo.heap.size, 7, none⟩ = some (.slice oy ny cy) ∧ W'.cell? ⟨wo.heap.size, 8, none⟩ = some (.int .i64 y.query.seats) ∧ W'.cell? ⟨wo.heap.size, 9, none⟩ = some (.slice oa na ca) ∧ W'.cell? ⟨wo.heap.size, 10, none⟩ = some (.slice op np cp) ∧ W'.cell? ⟨wo.heap.size, 11, none⟩ = some (.slice os ns' cs') ∧ W'.cell? ⟨wo.heap.size, 12, none⟩ = some (.slice ov nv cv) ∧ W'.cell? ⟨wo.heap.size, 13, none⟩ = some (.int .i64 y.until_) ∧ W'.cell? ⟨wo.heap.size, 14, none⟩ = some (.int .i64 2) ∧ W'.cell? ⟨wo.heap.size, 15, none⟩ = some (.int .i64 ((y.winTo k : Nat) : Int)) ∧ CI w w.heap.size wo.heap.size #[.int .i64 x.clock, .slice o1 n1 c1, .slice o2 n2 c2, .slice o3 n3 c3] #[.int .i64 0, .slice none 0 0, .slice none 0 0, .slice none 0 0] [.int .u32 y.id, .int .u32 a.caller, .int .i64 y.query.from_, .int .i64 y.query.to_, .int .i64 y.query.long, .int .i64 y.query.grid, .slice om nm cm, .slice oy ny cy, .int .i64 y.query.seats, .slice oa na ca, .slice op np cp, .slice os ns' cs', .slice ov nv cv, .int .i64 y.until_, .int .i64 2, .int .i64 ((y.winTo k : Nat) : Int)] (y.closed (y.winTo k)) W') (first | assumption | exact CI.drew (by assumption) | ((try dsimp only); go_split_ands; refine ⟨?_, ?_, ?_, ?_, ?_, ?_, ?_, ?_, ?_, ?_, ?_, ?_, ?_, ?_, ?_, ?_, ?_⟩ <;> first | assumption | exact CI.drew (by assumption) | exact CI.cell (by assumption) (by rfl) | exact CI.cell (CI.drew (by assumption)) (by rfl))) (first | (go_at_call 28; refine (yes_ci _ (by first | assumption | (go_split_ands; assumption))).mono ?_; rintro e w' ⟨rfl, h3⟩))
      have hyk : (y.closed (y.winTo k)).yes ((y.winTo k : Nat) : Int) = y.yes ((y.winTo k : Nat) : Int) := rfl
      have hyn : (y.closed (y.winTo k)).yes (k : Int) = y.yes (k : Int) := rfl
      rw [hyk, hyn]
      have HQ := Lib.hid h3
      have hgw : wo.heap.size < w'.heap.size := (Array.getElem?_eq_some_iff.1 h3.rg).1
      by_cases hq : y.yes ((y.winTo k : Nat) : Int) < y.yes (k : Int)
      · have hw : y.winTo (k + 1) = k := by simp [PollD.winTo, hq]
        have HW := Lib.hid hw
        have c15 := h3.cell (j := 15) rfl
        have z15 : World.frozen? w' ⟨wo.heap.size, 15, none⟩ = false := frozen_of_row _ _ _ _ _ h3.rg
        have dq := decide_eq_true hq
        clear h3 hci hw hyk hyn
        go_wp2_with fail
        go_roundw
        case measure => simp [intOf]; omega
        case rel =>
        refine ⟨k + 1, by omega, by go_num, ?_⟩
        rw [HW.out]
        exact HQ.out.store (by omega) (by omega) (by omega) k (wfi_nat k (by omega))
      · have hw : y.winTo (k + 1) = y.winTo k := by simp [PollD.winTo, hq]
        have HW := Lib.hid hw
        have dq := decide_eq_false hq
        clear h3 hci hw hyk hyn
        go_wp2_with fail
        go_roundw
        case measure => simp [intOf]; omega
        case rel =>
        refine ⟨k + 1, by omega, by go_num, ?_⟩
        rw [HW.out]
        exact HQ.out
    · obtain rfl : ns' = k := by omega
      have hcb : ∀ j, wl.drew.cell? ⟨w.heap.size, j, none⟩ = World.cell? (w.alloc (.cells #[.int .i64 x.clock, .slice o1 n1 c1, .slice o2 n2 c2, .slice o3 n3 c3] 26)) ⟨w.heap.size, j, none⟩ := fun j => (cell_of_row wl.drew _ j _ _ _ hci.ha).trans (cell_of_row _ _ j _ _ _ (heap_alloc_new w _)).symm
      have hcg : ∀ j, wl.drew.cell? ⟨wo.heap.size, j, none⟩ = World.cell? (wo.alloc (.cells #[.int .u32 y.id, .int .u32 a.caller, .int .i64 y.query.from_, .int .i64 y.query.to_, .int .i64 y.query.long, .int .i64 y.query.grid, .slice om nm cm, .slice oy ny cy, .int .i64 y.query.seats, .slice oa na ca, .slice op np cp, .slice os ns' cs', .slice ov nv cv, .int .i64 y.until_, .int .i64 2, .int .i64 ((y.winTo ns' : Nat) : Int)] 64)) ⟨wo.heap.size, j, none⟩ := fun j => (cell_of_row wl.drew _ j _ _ _ hci.rg).trans (cell_of_row _ _ j _ _ _ (heap_alloc_new wo _)).symm
      have hS0 := And.intro hcb hcg
      have CW := Lib.hid (with_ci hci.drew SW.out HR.out hn i HI.out rfl)
      have h02 : w.heap.size + 1 + 1 ≠ wo.heap.size := by omega
      have h03 : w.heap.size + 1 + 1 ≠ w.heap.size := by omega
      clear hci hcb hcg
      go_upto_region 11 with fail
      go_region_held3 (fun W' => (∀ j, W'.cell? ⟨w.heap.size, j, none⟩ = World.cell? (w.alloc (.cells #[.int .i64 x.clock, .slice o1 n1 c1, .slice o2 n2 c2, .slice o3 n3 c3] 26)) ⟨w.heap.size, j, none⟩) ∧ (∀ j, W'.cell? ⟨wo.heap.size, j, none⟩ = World.cell? (wo.alloc (.cells #[.int .u32 y.id, .int .u32 a.caller, .int .i64 y.query.from_, .int .i64 y.query.to_, .int .i64 y.query.long, .int .i64 y.query.grid, .slice om nm cm, .slice oy ny cy, .int .i64 y.query.seats, .slice oa na ca, .slice op np cp, .slice os ns' cs', .slice ov nv cv, .int .i64 y.until_, .int .i64 2, .int .i64 ((y.winTo ns' : Nat) : Int)] 64)) ⟨wo.heap.size, j, none⟩)) (first | assumption | exact ⟨fun j => (far4 _ h03 _ _ _ _).trans (hSA j), fun j => (far4 _ h02 _ _ _ _).trans (hSB j)⟩) (first | (go_at_call 27; refine CW.out.mono ?_; rintro e w' ⟨p1, q1, r1, p2, q2, r2, p3, q3, r3, rfl, hSA0, hSB0, f0, f1, f2, f3, hz, hrd⟩; have hSA := fun j => (hSA0 j).trans (hS0.1 j); have hSB := fun j => (hSB0 j).trans (hS0.2 j); have hSS := And.intro hSA hSB; clear hSA0 hSB0))
      go_wp2_with fail
      (try simp only [Exit.inBlock, Exit.then])
      refine bodyPost_ret (results_box rfl _ _ _ [.int .i64 x.clock, .slice p1 q1 r1, .slice p2 q2 r2, .slice p3 q3 r3] _ rfl (fun j z hj => set_four (fun j hj => ?_) j z hj) Try.underlying26 rfl size26) rfl ?_
      · match j, hj with
        | 0, _ => exact ⟨_, f0⟩
        | 1, _ => exact ⟨_, f1⟩
        | 2, _ => exact ⟨_, f2⟩
        | 3, _ => exact ⟨_, f3⟩
      · obtain ⟨hb2, hread, hbl⟩ := hrd.out
        have hle := y.winTo_le ns'
        have hbf : Below w.heap.size w ((((w'.setCell ⟨w.heap.size + 1 + 1, 0, none⟩ (.int .i64 x.clock)).setCell ⟨w.heap.size + 1 + 1, 1, none⟩ (.slice p1 q1 r1)).setCell ⟨w.heap.size + 1 + 1, 2, none⟩ (.slice p2 q2 r2)).setCell ⟨w.heap.size + 1 + 1, 3, none⟩ (.slice p3 q3 r3)) :=
          (((hbl.setCell (by simp; omega) _).setCell (by simp; omega) _).setCell (by simp; omega) _).setCell (by simp; omega) _
        have hwrap : (IntKind.u64).wrap ((y.winTo ns' : Nat) : Int) = ((y.winTo ns' : Nat) : Int) := by rw [IntKind.wrap_u64]; omega
        rw [LS.out]
        refine ⟨[.int .i64 x.clock, .slice p1 q1 r1, .slice p2 q2 r2, .slice p3 q3 r3], by rw [hwrap]; rfl, hread _ hbf (fun k hk _ => ?_), hbf⟩
        have hne : k ≠ w.heap.size + 1 + 1 := by
          have h1 : wl.drew.heap.size = wl.heap.size := rfl
          omega
        rw [Below.heap_setCell _ _ _ _ hne, Below.heap_setCell _ _ _ _ hne, Below.heap_setCell _ _ _ _ hne, Below.heap_setCell _ _ _ _ hne]
end Go.Proofs.Ytcleicjgeflbnaa
