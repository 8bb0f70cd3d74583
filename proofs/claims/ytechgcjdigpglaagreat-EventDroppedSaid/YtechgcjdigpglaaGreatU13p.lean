/- Loads of records of many cells. Plain laws of the model. ref11.Members: what lies in memory, and what it is. Plain. -/
import Derived.Test.YtechgcjdigpglaaGreatV15
import Derived.Laws.Rows
import Derived.Test.YtechgcjdigpglaaGreatU11
import Derived.Test.YtechgcjdigpglaaGreatU12
import Derived.Test.YtechgcjdigpglaaGreatP8
namespace Go.Proofs.YtechgcjdigpglaaGreat
open Go.RowKit Go.ChangeShapes Go.WideShapes Go.Deep
set_option linter.all false

theorem exec_ld {P : Program} {a : Act} (o : Oper) (ty : TypeId) (x : Operand) (ho : o.op = .load ty x) (w : World) (g : Nat) (hx : a.eval x = .pointer (some ⟨g, 0, none⟩)) (t : TypeId) (cs : Array Value) (fr : Nat × Nat) (d : TypeDesc) (hg : w.heap[g]? = some (.cells cs t fr))
    (hu : P.underlying ty = some d) (hd : (match d with | .struct _ | .array _ _ => true | _ => false) = true) (hi : (P.info? ty).map (·.size) = some cs.size) : (execOp a.eval o).run P w = .ok (.value (.agg cs)) w := by
  unfold execOp
  simp only [ho, hx, Instr.loadAt, Instr.sureAddr, Sem.run_bind, Sem.run_pure, Result.andThen_ok, run_loadVar_row w g t ty cs fr d hg hu hd hi]
theorem wpList_ld {P : Program} {ops : Array Oper} {rest : List Oper} {o : Oper} {a : Act} {w : World} {Q : Exit → Act → World → Prop} (hw : Region.wanted o (yielded ops a.tmps) = true) (ty : TypeId) (x : Operand) (ho : o.op = .load ty x)
    (g : Nat) (hx : a.eval x = .pointer (some ⟨g, 0, none⟩)) (t : TypeId) (cs : Array Value) (fr : Nat × Nat) (d : TypeDesc) (hg : w.heap[g]? = some (.cells cs t fr))
    (hu : P.underlying ty = some d) (hd : (match d with | .struct _ | .array _ _ => true | _ => false) = true) (hi : (P.info? ty).map (·.size) = some cs.size)
    (h : wpList P ops Q rest (a.put o.dst (.agg cs)) w) : wpList P ops Q (o :: rest) a w := by
  unfold wpList
  rw [if_pos hw]
  exact .inl (wp_load_row ty x ho g hx t cs fr d hg hu hd hi h)
/-- An event's record, its cells by name. -/
structure EvA (A : Array Value) (e : EventD) (oe ol oc : Option Addr) (ne ce nl cl nc cc : Nat) (rv : Array Value) : Prop where
  size : A.size = 16
  c0 : A[0]? = some (.int .i64 e.start)
  c1 : A[1]? = some (.int .i64 e.long)
  c2 : A[2]? = some (.bool e.world)
  c3 : A[3]? = some (.bool e.again)
  rule : rv.size = 9 ∧ ∀ j, j < 9 → A[4 + j]? = rv[j]?
  c13 : A[13]? = some (.slice oe ne ce)
  c14 : A[14]? = some (.slice ol nl cl)
  c15 : A[15]? = some (.slice oc nc cc)
end Go.Proofs.YtechgcjdigpglaaGreat
namespace Go.Proofs.YtechgcjdigpglaaGreat
open Go.RowKit Go.ChangeShapes Go.WideShapes Go.Deep
set_option linter.all false

/-- What the document's Members hands back. -/
def RefEnd (z : ZoneD) (e : EventD) (f t : Int) (w : World) (q : Ending) (w' : World) : Prop :=
  ∃ v L, q = .returned v ∧ w'.ownsRow w.heap.size 34 2 v L.length (spC L) ∧ L.Pairwise spLe ∧ RefMem z e f t L ∧ Below w.heap.size w w'
structure RM (zb eb sb : Array Value) (v7 v8 : Value) (M : List (Int × Int)) (T : List Int) (w wr : World) : Prop where
  bel : Below w.heap.size w wr
  xz : BxM w.heap.size zb 24 wr
  xe : BxM (w.heap.size + 1) eb 32 wr
  xs : BxM (w.heap.size + 2) sb 34 wr
  o7 : wr.ownsRow (w.heap.size + 3) 34 2 v7 M.length (spC M)
  n7 : v7 ≠ .slice none 0 0
  o8 : wr.ownsRow (w.heap.size + 3) 2 1 v8 T.length (inC T)
section
variable {zb eb sb : Array Value} {v7 v8 : Value} {M : List (Int × Int)} {T : List Int} {w wr w' : World}
theorem RM.below (h : RM zb eb sb v7 v8 M T w wr) (hb : Below wr.heap.size wr w') : RM zb eb sb v7 v8 M T w w' :=
  ⟨h.bel.trans (hb.mono h.bel.size), h.xz.below hb, h.xe.below hb, h.xs.below hb, own_laterI h.o7 hb, h.n7, own_laterI h.o8 hb⟩
theorem RM.new7 (h : RM zb eb sb v7 v8 M T w wr) (hb : Below wr.heap.size wr w') {v' : Value} {M' : List (Int × Int)} (ho : w'.ownsRow (w.heap.size + 3) 34 2 v' M'.length (spC M')) (hn : v' ≠ .slice none 0 0) : RM zb eb sb v' v8 M' T w w' :=
  ⟨h.bel.trans (hb.mono h.bel.size), h.xz.below hb, h.xe.below hb, h.xs.below hb, ho, hn, own_laterI h.o8 hb⟩
theorem RM.new8 (h : RM zb eb sb v7 v8 M T w wr) (hb : Below wr.heap.size wr w') {v' : Value} {T' : List Int} (ho : w'.ownsRow wr.heap.size 2 1 v' T'.length (inC T')) : RM zb eb sb v7 v' M T' w w' :=
  ⟨h.bel.trans (hb.mono h.bel.size), h.xz.below hb, h.xe.below hb, h.xs.below hb, own_laterI h.o7 hb, h.n7, own_base ho (by have := h.xs.lt; omega)⟩
theorem RM.app8 (h : RM zb eb sb v7 v8 M T w wr) (ha : ∀ k, v8.ownBlock = some k → v7.ownBlock ≠ some k) {v' : Value} {u : Int} (ho : w'.ownsRow (w.heap.size + 3) 2 1 v' (T.length + 1) (inC T ++ [.int .i64 u])) (hg : wr.grownBy w' v8.ownBlock)
    (hv : v'.ownBlock = v8.ownBlock ∨ ∀ k, v'.ownBlock = some k → wr.heap.size ≤ k) : RM zb eb sb v7 v' M (T ++ [u]) w w' ∧ ∀ k, v'.ownBlock = some k → v7.ownBlock ≠ some k := by
  have r : ∀ b, b < w.heap.size + 3 → v8.ownBlock ≠ some b := fun b hb e => by have := (own_low1 h.o8 e).1; omega
  have r7 : ∀ k, v7.ownBlock = some k → v8.ownBlock ≠ some k := fun k hk e => ha k e hk
  refine ⟨⟨h.bel.grown hg h.bel.size fun k hk => by have := (own_low1 h.o8 hk).1; omega, h.xz.grown hg (r _ (by omega)), h.xe.grown hg (r _ (by omega)), h.xs.grown hg (r _ (by omega)), own_keep1 h.o7 fun k hk => grown_block hg (own_low1 h.o7 hk).2 (r7 k hk), h.n7, ?_⟩, ?_⟩
  · rw [inC_append, List.length_append]; exact ho
  · intro k hk e
    rcases hv with e2 | hn
    · rw [e2] at hk; exact ha k hk e
    · have := hn k hk; have := (own_low1 h.o7 e).2; omega
end
theorem wfi_st {x : Int} (h : startOk x) : wfi .i64 x := by
  have := h.1; have := h.2
  simp [wfi, IntKind.min, IntKind.max, IntKind.bits, IntKind.signed]; omega
theorem quo_bd {a : Int} (h0 : -2000000000000 ≤ a) (h1 : a ≤ 2000000000000) : -2000000000000 ≤ a.tdiv 1440 ∧ a.tdiv 1440 ≤ 2000000000000 ∧ (0 ≤ a → a.tdiv 1440 = a / 1440) := by
  by_cases h : 0 ≤ a
  · rw [Int.tdiv_eq_ediv_of_nonneg h]; omega
  · have h2 : a.tdiv 1440 = -((-a) / 1440) := by rw [← Int.tdiv_eq_ediv_of_nonneg (show 0 ≤ -a by omega), Int.neg_tdiv, Int.neg_neg]
    rw [h2]; omega
/-- Of which times, ahead of changes. -/
def keepP (e : EventD) (f t x : Int) : Prop := (f - 20000 ≤ x ∧ x ≤ t + 2000) ∧ ¬ struckE e x
structure TimesOk (e : EventD) (t : Int) (T : List Int) : Prop where
  nodup : T.Nodup
  st : ∀ x ∈ T, startOk x
  is : ∀ x, x ≤ t + 2000 → (x ∈ T ↔ (e.again = false → x = e.start) ∧ (e.again = true → x ∈ allT e.rule e.start ∨ x ∈ e.plus))
  len : T.length ≤ 111000
noncomputable def memA (z : ZoneD) (e : EventD) (f t : Int) (T : List Int) : List (Int × Int) := (T.filter fun x => dec (keepP e f t x)).flatMap fun x => memF z x e.long f t
noncomputable def memC (z : ZoneD) (e : EventD) (f t : Int) (cs : List ChangeD) : List (Int × Int) := (cs.filter fun c => dec (atE e c.at_)).flatMap fun c => memF z c.start c.long f t
theorem memA_snoc (z : ZoneD) (e : EventD) (f t : Int) (T : List Int) (x : Int) : memA z e f t (T ++ [x]) = memA z e f t T ++ if dec (keepP e f t x) = true then memF z x e.long f t else [] := by
  unfold memA
  rw [List.filter_append, List.flatMap_append]
  congr 1
  cases h : dec (keepP e f t x) with
  | true => rw [List.filter_cons, if_pos h]; simp
  | false => rw [List.filter_cons, if_neg (by rw [h]; decide)]; simp
theorem memC_snoc (z : ZoneD) (e : EventD) (f t : Int) (cs : List ChangeD) (c : ChangeD) : memC z e f t (cs ++ [c]) = memC z e f t cs ++ if dec (atE e c.at_) = true then memF z c.start c.long f t else [] := by
  unfold memC
  rw [List.filter_append, List.flatMap_append]
  congr 1
  cases h : dec (atE e c.at_) with
  | true => rw [List.filter_cons, if_pos h]; simp
  | false => rw [List.filter_cons, if_neg (by rw [h]; decide)]; simp
theorem flat_le {α β : Type} (g : α → List β) (h : ∀ x, (g x).length ≤ 1) : ∀ l : List α, (l.flatMap g).length ≤ l.length
  | [] => Nat.le_refl _
  | x :: l => by rw [List.flatMap_cons, List.length_append, List.length_cons]; have := h x; have := flat_le g h l; omega
theorem memA_len (z : ZoneD) (e : EventD) (f t : Int) (T : List Int) : (memA z e f t T).length ≤ T.length :=
  Nat.le_trans (flat_le _ (fun x => memF_le _ _ _ _ _) _) (List.length_filter_le _ _)
theorem memC_len (z : ZoneD) (e : EventD) (f t : Int) (T : List ChangeD) : (memC z e f t T).length ≤ T.length :=
  Nat.le_trans (flat_le _ (fun x => memF_le _ _ _ _ _) _) (List.length_filter_le _ _)
theorem refMem_of {z : ZoneD} {e : EventD} {f t : Int} {T : List Int} {M : List (Int × Int)} (ha : askR z e f t) (hw : e.world = false) (hT : TimesOk e t T) (hM : M.Perm (memA z e f t T ++ memC z e f t e.changes)) : RefMem z e f t M :=
  ⟨fun h => absurd ha h, (fun _ h => by rw [hw] at h; cases h), fun _ _ => ⟨T.filter fun x => dec (keepP e f t x), hT.nodup.filter _, fun x => (by
    rw [List.mem_filter, dec_iff]
    unfold keepP refP
    constructor
    · rintro ⟨h1, h2, h3⟩
      have := (hT.is x h2.2).1 h1
      exact ⟨h2, this.1, fun h => ⟨this.2 h, h3⟩⟩
    · rintro ⟨h2, h1, h3⟩
      refine ⟨(hT.is x h2.2).2 ⟨h1, fun h => (h3 h).1⟩, h2, ?_⟩
      cases hag : e.again with
      | true => exact (h3 hag).2
      | false =>
        have hm := ha.1.2.2.2.1 hag
        rintro (h4 | ⟨c, hc, _⟩)
        · rw [List.eq_nil_of_length_eq_zero hm.2.1] at h4; cases h4
        · rw [List.eq_nil_of_length_eq_zero hm.2.2.2] at hc; cases hc), hM⟩⟩
theorem times_one {e : EventD} {t : Int} (hm : mayE e) (ha : e.again = false) : TimesOk e t [e.start] :=
  ⟨by simp, fun x hx => by rw [List.mem_singleton] at hx; rw [hx]; exact hm.1, fun x _ => by rw [List.mem_singleton]; exact ⟨fun h => ⟨fun _ => h, (fun h2 => by rw [ha] at h2; cases h2)⟩, fun h => h.1 ha⟩, by simp⟩
/-- The times so far, so many of those beside being taken in. -/
structure PlusTo (e : EventD) (T0 T : List Int) (k : Nat) : Prop where
  nodup : T.Nodup
  is : ∀ x, x ∈ T ↔ x ∈ T0 ∨ ∃ i : Nat, i < k ∧ e.plus[i]? = some x
  len : T.length ≤ T0.length + k
theorem PlusTo.old {e : EventD} {T0 T : List Int} {k : Nat} {x : Int} (h : PlusTo e T0 T k) (hx : e.plus[k]? = some x) (hm : x ∈ T) : PlusTo e T0 T (k + 1) :=
  ⟨h.nodup, fun y => ⟨fun hy => ((h.is y).1 hy).imp id fun ⟨i, a, b⟩ => ⟨i, by omega, b⟩, fun hy => by
    rcases hy with hy | ⟨i, a, b⟩
    · exact (h.is y).2 (.inl hy)
    · by_cases e1 : i = k
      · subst e1; rw [hx] at b; cases b; exact hm
      · exact (h.is y).2 (.inr ⟨i, by omega, b⟩)⟩, by have := h.len; omega⟩
theorem PlusTo.new {e : EventD} {T0 T : List Int} {k : Nat} {x : Int} (h : PlusTo e T0 T k) (hx : e.plus[k]? = some x) (hm : ¬ x ∈ T) : PlusTo e T0 (T ++ [x]) (k + 1) :=
  ⟨by rw [List.nodup_append]; exact ⟨h.nodup, by simp, fun a ha b hb => by rw [List.mem_singleton] at hb; subst hb; intro e1; subst e1; exact hm ha⟩, fun y => by
    rw [List.mem_append, List.mem_singleton, h.is y]
    constructor
    · rintro ((hy | ⟨i, a, b⟩) | rfl)
      · exact .inl hy
      · exact .inr ⟨i, by omega, b⟩
      · exact .inr ⟨k, by omega, hx⟩
    · rintro (hy | ⟨i, a, b⟩)
      · exact .inl (.inl hy)
      · by_cases e1 : i = k
        · subst e1; rw [hx] at b; cases b; exact .inr rfl
        · exact .inl (.inr ⟨i, by omega, b⟩), by rw [List.length_append]; have := h.len; simp; omega⟩
theorem PlusTo.start {e : EventD} {T0 : List Int} (h : T0.Nodup) : PlusTo e T0 T0 0 := ⟨h, fun x => ⟨.inl, fun h => h.elim id fun ⟨i, a, _⟩ => absurd a (Nat.not_lt_zero _)⟩, Nat.le_refl _⟩
theorem times_all {e : EventD} {t below : Int} {T0 T : List Int} (hm : mayE e) (ha : e.again = true) (hT0 : T0 = (allT e.rule e.start).filter fun x => decide (x < below * 1440)) (hb : ∀ x, 0 ≤ x → x ≤ t + 2000 → x < below * 1440)
    (hl : T0.length ≤ 110000) (h : PlusTo e T0 T e.plus.length) : TimesOk e t T := by
  have hg := hm.2.2.2.2 ha
  have hp : ∀ x, (∃ i : Nat, i < e.plus.length ∧ e.plus[i]? = some x) ↔ x ∈ e.plus := fun x => ⟨fun ⟨i, _, h⟩ => List.mem_of_getElem? h, fun h => by
    obtain ⟨i, hi⟩ := List.getElem?_of_mem h
    exact ⟨i, (List.getElem?_eq_some_iff.1 hi).1, hi⟩⟩
  refine ⟨h.nodup, fun x hx => ?_, fun x hx => ?_, by have := h.len; have := hg.2.2.2.1.2.2; omega⟩
  · rcases (h.is x).1 hx with h1 | h1
    · rw [hT0, List.mem_filter] at h1
      have := mem_allT hg.2.1 hm.1 h1.1
      exact ⟨by have := hm.1.1; omega, this.2.2⟩
    · exact hg.2.2.2.1.1 x ((hp x).1 h1)
  · rw [h.is x, hp x, hT0, List.mem_filter, decide_eq_true_eq]
    constructor
    · rintro (h1 | h1)
      · exact ⟨(fun h2 => by rw [ha] at h2; cases h2), fun _ => .inl h1.1⟩
      · exact ⟨(fun h2 => by rw [ha] at h2; cases h2), fun _ => .inr h1⟩
    · rintro ⟨_, h1⟩
      refine (h1 ha).imp (fun h2 => ⟨h2, hb x ?_ hx⟩) id
      have := mem_allT hg.2.1 hm.1 h2
      have := hm.1.1; omega
theorem perm_step {α : Type} {M' M A F B : List α} (h : M'.Perm (F ++ M)) (h2 : M.Perm A) (h3 : B = A ++ F) : M'.Perm B := by
  rw [h3]
  exact h.trans ((List.Perm.append_left F h2).trans List.perm_append_comm)
end Go.Proofs.YtechgcjdigpglaaGreat
