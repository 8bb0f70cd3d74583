/- slices.Clone of rows of records. Conditions: as many elements as the bound says. -/
import Derived.Test.YtcleicjgeflbnaaG3
import Derived.Maps.AppendAt
import Derived.Deep.AppendLies
import Derived.RegionTactic
import Derived.OwnWalk
import Derived.Laws.OwnMore
namespace Go.Proofs.Ytcleicjgeflbnaa
open Go.RowKit Go.ChangeShapes Go.WideShapes Go.Deep

/-- All cells of a row, one behind the other. -/
theorem Row.all {α : Type} {w : World} {k : Nat} {R : List Value → α → Prop} {o : Option Addr} {n c : Nat} {xs : List α} (h : Row w k R (.slice o n c) xs) (h1 : ∀ cs x, R cs x → ∀ u ∈ cs, u.oneCell' = true) :
    ∃ news : List Value, news.length = n * k ∧ (∀ u ∈ news, u.oneCell' = true) ∧ (∀ a, o = some a → ∀ j u, news[j]? = some u → w.cell? (a.add j) = some u) ∧
      ∀ (i : Nat) (x : α), xs[i]? = some x → R ((news.drop (i * k)).take k) x := by
  obtain ⟨o', n', c', e, h0, h2, h3, h4, h5⟩ := h
  simp only [Value.slice.injEq] at e
  obtain ⟨rfl, rfl, rfl⟩ := e
  cases o with
  | none =>
    have hn : n = 0 := by have := h0 rfl; omega
    subst hn
    exact ⟨[], by simp, by simp, by simp, fun i x hx => by rw [List.eq_nil_of_length_eq_zero h2] at hx; simp at hx⟩
  | some a =>
    have hcell : ∀ j, j < n * k → ∃ (u : Value), w.cell? (a.add j) = some u ∧ u.oneCell' = true := by
      intro j hj
      have hk : 0 < k := by rcases Nat.eq_zero_or_pos k with h | h; · subst h; simp at hj
                            · exact h
      have hi : j / k < n := (Nat.div_lt_iff_lt_mul hk).2 hj
      obtain ⟨a', cs, ha, hc, hjj, hr⟩ := h5 (j / k) (xs[j / k]'(by omega)) (List.getElem?_eq_getElem (by omega))
      injection ha with ha
      subst ha
      have hm : j % k < k := Nat.mod_lt _ hk
      have := hjj (j % k) hm
      rw [Nat.mul_comm, Nat.div_add_mod] at this
      rw [List.getElem?_eq_getElem (by omega)] at this
      exact ⟨_, this, h1 _ _ hr _ (List.getElem_mem _)⟩
    let f : Nat → Value := fun j => (w.cell? (a.add j)).getD undef
    have hf : ∀ j, j < n * k → w.cell? (a.add j) = some (f j) := fun j hj => by obtain ⟨u, hu, _⟩ := hcell j hj; simp [f, hu]
    refine ⟨(List.range (n * k)).map f, by simp, ?_, ?_, ?_⟩
    · intro u hu
      simp only [List.mem_map, List.mem_range] at hu
      obtain ⟨j, hj, rfl⟩ := hu
      obtain ⟨u, hu, hu1⟩ := hcell j hj
      rw [hf j hj] at hu
      injection hu with hu
      rw [hu]; exact hu1
    · intro a' ha j u hu
      injection ha with ha
      subst ha
      have hj : j < n * k := by have := (List.getElem?_eq_some_iff.1 hu).1; simpa using this
      rw [List.getElem?_map, List.getElem?_range hj] at hu
      rw [hf j hj]; simpa using hu
    · intro i x hx
      obtain ⟨a', cs, ha, hc, hjj, hr⟩ := h5 i x hx
      injection ha with ha
      subst ha
      have hi : i < n := by have := (List.getElem?_eq_some_iff.1 hx).1; omega
      have : (((List.range (n * k)).map f).drop (i * k)).take k = cs := by
        apply List.ext_getElem?
        intro j
        by_cases hj : j < k
        · have hb : i * k + j < n * k := by
            have : (i + 1) * k ≤ n * k := Nat.mul_le_mul_right _ hi
            rw [Nat.add_mul] at this; omega
          rw [List.getElem?_take, if_pos hj, List.getElem?_drop, List.getElem?_map, List.getElem?_range hb, ← hjj j hj, hf _ hb]; rfl
        · rw [List.getElem?_take, if_neg hj, List.getElem?_eq_none (by omega)]
      rw [this]; exact hr

/-- A row of one's own reads as its cells say. -/
theorem Row.of_own {α : Type} {w : World} {base : Nat} {e : TypeId} {k : Nat} {R : List Value → α → Prop} {v : Value} {n : Nat} {news : List Value} {xs : List α} (h : w.ownsRow base e k v n news) (hl : xs.length = n)
    (hR : ∀ (i : Nat) (x : α), xs[i]? = some x → R ((news.drop (i * k)).take k) x) : Row w k R v xs := by
  have hlen := h.1
  have h' := h
  rcases h.2 with ⟨rfl, rfl⟩ | ⟨g, cap, cur, rfl, hb, hg, h1, h2, h3, h4⟩
  · exact ⟨none, 0, 0, rfl, fun _ => rfl, hl, Nat.le_refl _, Nat.zero_le _, fun i x hx => by rw [List.eq_nil_of_length_eq_zero hl] at hx; simp at hx⟩
  · refine ⟨some ⟨g, 0, none⟩, n, cap, rfl, fun e => by simp at e, hl, h1, h2, fun i x hx => ⟨_, _, rfl, ?_, fun j hj => ?_, hR i x hx⟩⟩
    · have hi : i < n := by have := (List.getElem?_eq_some_iff.1 hx).1; omega
      have : (i + 1) * k ≤ n * k := Nat.mul_le_mul_right _ hi
      rw [Nat.add_mul] at this
      rw [List.length_take, List.length_drop, hlen]; omega
    · have hi : i < n := by have := (List.getElem?_eq_some_iff.1 hx).1; omega
      have : (i + 1) * k ≤ n * k := Nat.mul_le_mul_right _ hi
      rw [Nat.add_mul] at this
      have hadd : (⟨g, 0, none⟩ : Addr).add (i * k + j) = ⟨g, i * k + j, none⟩ := by unfold Addr.add; split <;> simp_all
      rw [hadd, h'.cellAt _ (by omega), List.getElem?_take, if_pos hj, List.getElem?_drop]

theorem eq_nil (w : World) : (binOp BinOp.eql 23 (Value.slice none 0 0) (Value.slice none 0 0)).run Try.prog w = .ok (.bool true) w := by kernel_rfl
theorem eq_some (a : Addr) (n c : Nat) (w : World) : (binOp BinOp.eql 23 (Value.slice (some a) n c) (Value.slice none 0 0)).run Try.prog w = .ok (.bool false) w := by kernel_rfl

theorem clone_nil (w : World) :
    Calls Try.prog 17 #[.slice none 0 0] w fun e w' => e = .returned (.slice none 0 0) ∧ w' = w := by
  have h := eq_nil
  go_enter Try.func17, Try.ntmps17
  go_wp2
  go_ret
  exact ⟨rfl, rfl⟩
theorem info64 : (Try.prog.info? 64).map (fun i => (i.zero, i.size, i.bytes)) = some (some (.agg #[.int .u32 0, .int .u32 0, .int .i64 0, .int .i64 0, .int .i64 0, .int .i64 0, .slice none 0 0, .slice none 0 0, .int .i64 0, .slice none 0 0, .slice none 0 0, .slice none 0 0, .slice none 0 0, .int .i64 0, .int .i64 0, .int .i64 0]), 16, 216) := by kernel_rfl

set_option maxRecDepth 100000 in
theorem clone_some (a : Addr) (n c : Nat) (w : World) (hn : n ≤ 100) (news : List Value) (hl : news.length = n * 16) (h1 : ∀ u ∈ news, u.oneCell' = true) (hc : ∀ j u, news[j]? = some u → w.cell? (a.add j) = some u) :
    Calls Try.prog 17 #[.slice (some a) n c] w fun e w' => ∃ v, e = .returned v ∧ w'.ownsRow w.heap.size 64 16 v n news ∧ v ≠ .slice none 0 0 ∧ Below w.heap.size w w' := by
  obtain ⟨i0, hi0, hz0, hz1, hz2⟩ := info_parts info64
  have h := eq_some a n c
  have HC := Lib.hid hc
  have H1 := Lib.hid h1
  have HL := Lib.hid hl
  clear hc h1 hl
  have hown : (w.alloc (.cells #[] 64)).ownsRow w.heap.size 64 16 (.slice (some ⟨w.heap.size, 0, none⟩) 0 0) 0 [] := World.ownsRow_lit w #[] 0 (Nat.le_refl _) (Nat.zero_le _) rfl
  have HO := Lib.hid hown
  clear hown
  go_enter Try.func17, Try.ntmps17
  go_wp2_with (at_builtin; refine wpList_append_own (w.alloc (.cells #[] 64)) rfl (.tmp 5) (.tmp 6) 23 rfl w.heap.size 64 i0 _ 16 216 Try.underlying23 hi0 hz0 hz1 hz2 rfl (by decide) (.slice (some ⟨w.heap.size, 0, none⟩) 0 0) 0 [] rfl HO.out a n c news rfl (by rw [HL.out]) ?c1 H1.out ?c3 ?c4 ?c5 ?_)
  case c1 => intro j u hu; have h := HC.out j u hu; rw [← h]; exact World.cell?_alloc_lt w _ _ (World.block_lt_of_cell? w _ h)
  case c3 => unfold maxLen; omega
  case c4 => omega
  case c5 => simp
  intro v' w2 hown' hgrow hnil
  have hb : Below w.heap.size w w2 := ((Below.refl _ _).alloc (Nat.le_refl _) _).grown hgrow (by simp) (fun k hk => by simp [Value.ownBlock] at hk; omega)
  have HB := Lib.hid hb
  have HO' := Lib.hid hown'
  have HN := Lib.hid hnil
  clear hb hown' hnil hgrow
  go_wp2
  go_ret
  exact ⟨v', rfl, by simpa using HO'.out, fun e => HN.out e, HB.out⟩

theorem poll_one (w : World) : ∀ cs x, rPoll w cs x → ∀ u ∈ cs, u.oneCell' = true := by
  rintro cs x ⟨q, s, v, rfl, _, _, _, _, _, ⟨m, y, a, p, rfl, _, _, _, _, _, hm, hy, ha, hp⟩, hs, hv⟩ u hu
  obtain ⟨_, _, _, rfl, _⟩ := hm
  obtain ⟨_, _, _, rfl, _⟩ := hy
  obtain ⟨_, _, _, rfl, _⟩ := ha
  obtain ⟨_, _, _, rfl, _⟩ := hp
  obtain ⟨_, _, _, rfl, _⟩ := hs
  obtain ⟨_, _, _, rfl, _⟩ := hv
  simp only [List.cons_append, List.nil_append, List.mem_cons, List.not_mem_nil, or_false] at hu
  rcases hu with rfl | rfl | rfl | rfl | rfl | rfl | rfl | rfl | rfl | rfl | rfl | rfl | rfl | rfl | rfl | rfl <;> rfl

/-- What a copy of a row of polls is: a row of its own, of the same cells. -/
theorem clone_polls (o : Option Addr) (n c : Nat) (xs : List PollD) (w : World) (h : Row w 16 (rPoll w) (.slice o n c) xs) (hn : n ≤ 100) :
    Calls Try.prog 17 #[.slice o n c] w fun e w' => ∃ v news, e = .returned v ∧ w'.ownsRow w.heap.size 64 16 v n news ∧ (∀ (i : Nat) (x : PollD), xs[i]? = some x → rPoll w ((news.drop (i * 16)).take 16) x) ∧ Below w.heap.size w w' := by
  obtain ⟨news, h1, h2, h3, h4⟩ := h.all (poll_one w)
  cases o with
  | none =>
    obtain ⟨rfl, rfl, rfl⟩ := h.nil_
    refine (clone_nil w).mono ?_
    rintro e w' ⟨rfl, rfl⟩
    exact ⟨_, [], rfl, World.ownsRow_nil .., fun i x hx => by simp at hx, Below.refl _ _⟩
  | some a =>
    refine (clone_some a n c w hn news h1 h2 (h3 a rfl)).mono ?_
    rintro e w' ⟨v, rfl, h5, _, h6⟩
    exact ⟨v, news, rfl, h5, h4, h6⟩
end Go.Proofs.Ytcleicjgeflbnaa
