/- The contracts of with and of Yes as Vote meets them: what they leave of its boxes. Conditions: there is a poll of that number, the polls' numbers rise, there are at most a hundred. -/
import Derived.Test.YtcleicjgeflbnaaG47
import Derived.Test.YtcleicjgeflbnaaG46
namespace Go.Proofs.Ytcleicjgeflbnaa
open Go.RowKit Go.ChangeShapes Go.WideShapes Go.Deep

/-- A poll's cells read in every later world that keeps what was laid from a block on. -/
def PollAt (w : World) (base : Nat) (W : World) (L : List Value) (p : PollD) : Prop := ∀ w'', Sub w w'' → (∀ k, base ≤ k → k < W.heap.size → w''.heap[k]? = W.heap[k]?) → rPoll w'' L p
def StateAt (w : World) (base : Nat) (W : World) (L : List Value) (x : StateD) : Prop := ∀ w'', Sub w w'' → (∀ k, base ≤ k → k < W.heap.size → w''.heap[k]? = W.heap[k]?) → rState w'' L x
section
variable {w W W' w1 m : World} {base : Nat} {S L : List Value} {A Z : Array Value} {p y : PollD} {x : StateD}
theorem PollAt.later (h : PollAt w base W L p) (hb : Below W.heap.size W W') : PollAt w base W' L p := fun w'' h1 h2 => h w'' h1 fun k h3 h4 => (h2 k h3 (Nat.lt_of_lt_of_le h4 hb.size)).trans (hb.block k h4)
theorem StateAt.later (h : StateAt w base W L x) (hb : Below W.heap.size W W') : StateAt w base W' L x := fun w'' h1 h2 => h w'' h1 fun k h3 h4 => (h2 k h3 (Nat.lt_of_lt_of_le h4 hb.size)).trans (hb.block k h4)
theorem PollAt.drew (h : PollAt w base W L p) : PollAt w base W.drew L p := h
theorem PollAt.store (h : PollAt w base W L p) {g : Nat} (hg : g < base) (i : Nat) (v : Value) : PollAt w base (W.setCell ⟨g, i, none⟩ v) L p := fun w'' h1 h2 => h w'' h1 fun k h3 h4 => (h2 k h3 (by simpa [World.setCell] using h4)).trans (Below.heap_setCell _ _ _ _ (by simp only; omega))

theorem rPoll.query_of (h : rPoll w L p) : ∃ q, rQuery w q p.query := by
  obtain ⟨q, _, _, _, _, _, _, _, _, hq, _⟩ := h
  exact ⟨q, hq⟩

/-- A poll with other votes, in a row of its own. -/
theorem poll_votes {n' : Nat} {v' : Value} {vs : List VoteD} (h : rPoll w L y) (hown : W.ownsRow base 68 2 v' n' (cellsV vs)) (hl : vs.length = n') (hf : ∀ u ∈ vs, wfi .u32 u.user ∧ wfi .i64 u.slot) :
    PollAt w base W (L.set 12 v') { y with votes := vs } := by
  intro w'' hb hk
  obtain ⟨qq, qs, qv, rfl, a1, a2, a3, a4, a5, hq, d1, _⟩ := h.sub hb
  obtain ⟨qm, qy, qa, qp, rfl, b1, b2, b3, b4, b5, c1⟩ := hq
  refine ⟨_, qs, v', by simp only [List.cons_append, List.nil_append, List.set_cons_succ, List.set_cons_zero], a1, a2, a3, a4, a5, ⟨qm, qy, qa, qp, rfl, b1, b2, b3, b4, b5, c1⟩, d1, ?_⟩
  have hof : w''.ownsRow base 68 2 v' n' (cellsV vs) := ⟨hown.1, hown.2.imp id fun ⟨g', c', cur, e, h1, h2, h3⟩ => ⟨g', c', cur, e, h1, (hk g' h1 (Array.getElem?_eq_some_iff.1 h2).1).trans h2, h3⟩⟩
  refine Row.of_own hof hl fun i u hu => ?_
  rw [cellsV_part vs i u hu]
  exact ⟨rfl, hf u (List.mem_of_getElem? hu)⟩

theorem with_vi (h : VI w w1.heap.size S.toArray A #[.int .i64 0, .slice none 0 0, .slice none 0 0, .slice none 0 0] L.toArray W) (hbase : base ≤ W.heap.size) (hm : Sub m w) (hP : PollAt m base W L p) (hs : rState m S x) (hr : rises (·.id) x.polls) (hn : x.polls.length ≤ 100) (i : Nat) (hi : x.polls[i]? = some y) (hid : y.id = p.id) :
    Calls Try.prog 27 #[.agg S.toArray, .agg L.toArray] W fun e w' => ∃ p1 q1 r1 p2 q2 r2 p3 q3 r3, e = .returned (.agg #[.int .i64 x.clock, .slice p1 q1 r1, .slice p2 q2 r2, .slice p3 q3 r3]) ∧ ((∀ j, World.cell? w' ⟨w.heap.size, j, none⟩ = World.cell? (w.alloc (.cells S.toArray 26)) ⟨w.heap.size, j, none⟩) ∧ (∀ j, World.cell? w' ⟨w.heap.size + 1, j, none⟩ = World.cell? ((w.alloc (.cells S.toArray 26)).alloc (.cells A 54)) ⟨w.heap.size + 1, j, none⟩) ∧ (∀ j, World.cell? w' ⟨w1.heap.size, j, none⟩ = World.cell? (w1.alloc (.cells L.toArray 64)) ⟨w1.heap.size, j, none⟩)) ∧
      Hid (VI w w1.heap.size S.toArray A #[.int .i64 0, .slice none 0 0, .slice none 0 0, .slice none 0 0] L.toArray w' ∧ PollAt m base w' L p ∧ StateAt m base w' [.int .i64 x.clock, .slice p1 q1 r1, .slice p2 q2 r2, .slice p3 q3 r3] { x with polls := x.polls.set i p } ∧ W.heap.size ≤ w'.heap.size) := by
  have hmW : Sub m W := hm.trans (Sub.of_below h.below)
  refine (with_to S L x p m W base hbase hmW hs hP hr hn i y hi hid).mono ?_
  rintro e w' ⟨cs', rfl, hrd, hb⟩
  have hh := hrd w' (hmW.trans (Sub.of_below hb)) (fun _ _ _ => rfl)
  obtain ⟨u, vp, d, rfl, _, ⟨p1, q1, r1, rfl, _⟩, ⟨p2, q2, r2, rfl, _⟩, ⟨p3, q3, r3, rfl, _⟩⟩ := hh
  have h' := h.later hb
  exact ⟨p1, q1, r1, p2, q2, r2, p3, q3, r3, rfl, ⟨h'.kA, h'.kB, h'.kP⟩, h', hP.later hb, hrd, hb.size⟩

theorem yes_vi (s : Int) (h : VI w w1.heap.size S.toArray A #[.int .i64 0, .slice none 0 0, .slice none 0 0, .slice none 0 0] L.toArray W) (hm : Sub m w) (hP : PollAt m base W L p) :
    Calls Try.prog 28 #[.agg L.toArray, .int .i64 s] W fun e w' => e = .returned (.int .i64 (p.yes s : Nat)) ∧ ((∀ j, World.cell? w' ⟨w.heap.size, j, none⟩ = World.cell? (w.alloc (.cells S.toArray 26)) ⟨w.heap.size, j, none⟩) ∧ (∀ j, World.cell? w' ⟨w.heap.size + 1, j, none⟩ = World.cell? ((w.alloc (.cells S.toArray 26)).alloc (.cells A 54)) ⟨w.heap.size + 1, j, none⟩) ∧ (∀ j, World.cell? w' ⟨w1.heap.size, j, none⟩ = World.cell? (w1.alloc (.cells L.toArray 64)) ⟨w1.heap.size, j, none⟩)) ∧
      (w'.cell? ⟨w.heap.size + 1 + 1, 0, none⟩ = some (.int .i64 0) ∧ w'.cell? ⟨w.heap.size + 1 + 1, 1, none⟩ = some (.slice none 0 0) ∧ w'.cell? ⟨w.heap.size + 1 + 1, 2, none⟩ = some (.slice none 0 0) ∧ w'.cell? ⟨w.heap.size + 1 + 1, 3, none⟩ = some (.slice none 0 0)) ∧
      (∀ j, World.frozen? w' ⟨w.heap.size + 1 + 1, j, none⟩ = false) ∧ Hid (VI w w1.heap.size S.toArray A #[.int .i64 0, .slice none 0 0, .slice none 0 0, .slice none 0 0] L.toArray w' ∧ Below W.heap.size W w') := by
  refine (yes_any L p s W (hP W (hm.trans (Sub.of_below h.below)) fun _ _ _ => rfl)).mono ?_
  rintro e w' ⟨rfl, hb⟩
  have h' := h.later hb
  exact ⟨rfl, ⟨h'.kA, h'.kB, h'.kP⟩, h'.c4, h'.zC, h', hb⟩
end
end Go.Proofs.Ytcleicjgeflbnaa
