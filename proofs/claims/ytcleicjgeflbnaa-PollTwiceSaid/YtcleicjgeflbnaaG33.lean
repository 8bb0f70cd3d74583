/- Copies of votes, and laws of no program on rows of two cells: slices.Clone, copy and clear. Conditions: at most a hundred votes. -/
import Derived.Test.YtcleicjgeflbnaaG20
import Derived.Laws.IdiomCopy
namespace Go.Proofs.Ytcleicjgeflbnaa
open Go.RowKit Go.ChangeShapes Go.WideShapes Go.Deep

theorem run_copy_wide {P : Program} (w : World) (dT sT ty elem : TypeId) (k : Nat) (b o dLen dCap : Nat) (a : Addr) (sLen sCap : Nat) (cs : List Value)
    (hu : P.underlying dT = some (.slice elem)) (hs : (P.info? elem).map (·.size) = some k) (hn : cs.length = Nat.min sLen dLen * k)
    (hsrc : ∀ j v, cs[j]? = some v → w.cell? (a.add j) = some v) (hc : ∀ j, j < cs.length → (w.cell? ⟨b, o + j, none⟩).isSome = true) (hf : ∀ j, j < cs.length → w.frozen? ⟨b, o + j, none⟩ = false) (h1 : ∀ v ∈ cs, v.oneCell' = true) :
    (Builtin.copy_ #[dT, sT] ty #[.slice (some ⟨b, o, none⟩) dLen dCap, .slice (some a) sLen sCap]).run P w = .ok (goInt (Nat.min sLen dLen)) (w.setCells b o cs) := by
  have hl := run_loadCells_list (P := P) w a cs hsrc
  have hst := run_storeCells_cells (P := P) b o cs 0 w (by simpa using hc) (by simpa using hf) h1
  rw [hn] at hl
  cases hq : P.info? elem with
  | none => simp [hq] at hs
  | some i =>
    have hi : i.size = k := by simpa [hq] using hs
    simp [Builtin.copy_, run_underlying hu, Builtin.lenOf, Builtin.firstCells, sizeOf, typeInfo, hq, hi, hl, hst]

theorem run_clear_one {P : Program} (w : World) (t e ty : TypeId) (zs : Array Value) (ht : P.underlying t = some (.slice e)) (hv : ∀ w, (zeroValue e).run P w = .ok (.agg zs) w) (h1 : ∀ z ∈ zs.toList, z.oneCell' = true) (b o c : Nat)
    (hc : ∀ j, j < zs.size → (w.cell? ⟨b, o + j, none⟩).isSome = true) (hf : ∀ j, j < zs.size → w.frozen? ⟨b, o + j, none⟩ = false) :
    (Builtin.clear_ #[t] ty #[.slice (some ⟨b, o, none⟩) 1 c]).run P w = .ok (.tuple #[]) (w.setCells b o zs.toList) := by
  have hzc : (Builtin.zeroCells zs 1).toList = zs.toList := by
    simp [Builtin.zeroCells]
    apply List.ext_getElem?
    intro j
    by_cases hj : j < zs.size
    · simp [hj, Nat.mod_eq_of_lt hj]
    · simp [hj]
  have hst := run_storeCells_cells (P := P) b o zs.toList 0 w (by simpa using hc) (by simpa using hf) h1
  simp only [Nat.add_zero] at hst
  simp [Builtin.clear_, run_underlying ht, hv, Value.cells, hzc, hst]

def cellsV (xs : List VoteD) : List Value := xs.flatMap fun v => [.int .u32 v.user, .int .i64 v.slot]
theorem cellsV_cons (v : VoteD) (xs : List VoteD) : cellsV (v :: xs) = .int .u32 v.user :: .int .i64 v.slot :: cellsV xs := rfl
theorem cellsV_append (xs ys : List VoteD) : cellsV (xs ++ ys) = cellsV xs ++ cellsV ys := by simp [cellsV]
theorem cellsV_length : ∀ xs : List VoteD, (cellsV xs).length = xs.length * 2
  | [] => rfl
  | v :: r => by rw [cellsV_cons]; simp only [List.length_cons, cellsV_length r]; omega
theorem cellsV_one (xs : List VoteD) : ∀ u ∈ cellsV xs, u.oneCell' = true := by
  intro u hu
  simp only [cellsV, List.mem_flatMap, List.mem_cons, List.not_mem_nil, or_false] at hu
  obtain ⟨v, _, rfl | rfl⟩ := hu <;> rfl
theorem cellsV_take : ∀ (xs : List VoteD) (i : Nat), cellsV (xs.take i) = (cellsV xs).take (i * 2)
  | [], i => by simp [cellsV]
  | v :: r, 0 => rfl
  | v :: r, i + 1 => by
    rw [List.take_succ_cons, cellsV_cons, cellsV_cons, cellsV_take r i, show (i + 1) * 2 = i * 2 + 1 + 1 by omega]
    rfl
theorem cellsV_drop : ∀ (xs : List VoteD) (i : Nat), cellsV (xs.drop i) = (cellsV xs).drop (i * 2)
  | [], i => by simp [cellsV]
  | v :: r, 0 => rfl
  | v :: r, i + 1 => by
    rw [List.drop_succ_cons, cellsV_cons, cellsV_drop r i, show (i + 1) * 2 = i * 2 + 1 + 1 by omega]
    rfl
theorem cellsV_part : ∀ (xs : List VoteD) (i : Nat) (v : VoteD), xs[i]? = some v → ((cellsV xs).drop (i * 2)).take 2 = [.int .u32 v.user, .int .i64 v.slot] := by
  intro xs i v h
  rw [← cellsV_drop]
  have : xs.drop i = v :: xs.drop (i + 1) := by
    obtain ⟨hl, rfl⟩ := List.getElem?_eq_some_iff.1 h
    exact List.drop_eq_getElem_cons hl
  rw [this, cellsV_cons]
  rfl
theorem Row.cellsV {w : World} {o : Option Addr} {n c : Nat} {xs : List VoteD} (h : Row w 2 rVote (.slice o n c) xs) : ∀ a, o = some a → ∀ j u, (cellsV xs)[j]? = some u → w.cell? (a.add j) = some u := by
  rintro a rfl j u hu
  have hj : j < xs.length * 2 := by
    have := (List.getElem?_eq_some_iff.1 hu).1
    rwa [cellsV_length] at this
  obtain ⟨o', n', c', e, _, _, _, _, h5⟩ := h
  simp only [Value.slice.injEq] at e
  obtain ⟨rfl, rfl, rfl⟩ := e
  have hx : xs[j / 2]? = some (xs[j / 2]'(by omega)) := List.getElem?_eq_getElem (by omega)
  obtain ⟨a', cs, ha, _, hc, hr, _⟩ := h5 (j / 2) _ hx
  injection ha with ha
  subst ha
  have hp := cellsV_part xs (j / 2) _ hx
  have h1 := hc (j % 2) (Nat.mod_lt _ (by decide))
  rw [show j / 2 * 2 + j % 2 = j by omega] at h1
  rw [h1, hr, ← hp, List.getElem?_take, if_pos (Nat.mod_lt _ (by decide)), List.getElem?_drop, show j / 2 * 2 + j % 2 = j by omega, hu]

theorem eq_nil62 (w : World) : (binOp BinOp.eql 62 (Value.slice none 0 0) (Value.slice none 0 0)).run Try.prog w = .ok (.bool true) w := by kernel_rfl
theorem eq_some62 (a : Addr) (n c : Nat) (w : World) : (binOp BinOp.eql 62 (Value.slice (some a) n c) (Value.slice none 0 0)).run Try.prog w = .ok (.bool false) w := by kernel_rfl
theorem info68 : (Try.prog.info? 68).map (fun i => (i.zero, i.size, i.bytes)) = some (some (.agg #[.int .u32 0, .int .i64 0]), 2, 16) := by kernel_rfl

theorem cloneV_nil (w : World) : Calls Try.prog 24 #[.slice none 0 0] w fun e w' => e = .returned (.slice none 0 0) ∧ w' = w := by
  have h := eq_nil62
  go_enter Try.func24, Try.ntmps24
  go_wp2
  go_ret
  exact ⟨rfl, rfl⟩

set_option maxRecDepth 100000 in
theorem cloneV_some (a : Addr) (n c : Nat) (w : World) (hn : n ≤ 1000) (news : List Value) (hl : news.length = n * 2) (h1 : ∀ u ∈ news, u.oneCell' = true) (hc : ∀ j u, news[j]? = some u → w.cell? (a.add j) = some u) :
    Calls Try.prog 24 #[.slice (some a) n c] w fun e w' => ∃ v, e = .returned v ∧ w'.ownsRow w.heap.size 68 2 v n news ∧ Below w.heap.size w w' := by
  obtain ⟨i0, hi0, hz0, hz1, hz2⟩ := info_parts info68
  have h := eq_some62 a n c
  have HC := Lib.hid hc
  have H1 := Lib.hid h1
  have HL := Lib.hid hl
  clear hc h1 hl
  have hown : (w.alloc (.cells #[] 68)).ownsRow w.heap.size 68 2 (.slice (some ⟨w.heap.size, 0, none⟩) 0 0) 0 [] := World.ownsRow_lit w #[] 0 (Nat.le_refl _) (Nat.zero_le _) rfl
  have HO := Lib.hid hown
  clear hown
  go_enter Try.func24, Try.ntmps24
  go_wp2_with (at_builtin; refine wpList_append_own (w.alloc (.cells #[] 68)) rfl (.tmp 5) (.tmp 6) 62 rfl w.heap.size 68 i0 _ 2 16 Try.underlying62 hi0 hz0 hz1 hz2 rfl (by decide) (.slice (some ⟨w.heap.size, 0, none⟩) 0 0) 0 [] rfl HO.out a n c news rfl (by rw [HL.out]) ?c1 H1.out ?c3 ?c4 ?c5 ?_)
  case c1 => intro j u hu; have h := HC.out j u hu; rw [← h]; exact World.cell?_alloc_lt w _ _ (World.block_lt_of_cell? w _ h)
  case c3 => unfold maxLen; omega
  case c4 => omega
  case c5 => simp
  intro v' w2 hown' hgrow hnil
  have hb : Below w.heap.size w w2 := ((Below.refl _ _).alloc (Nat.le_refl _) _).grown hgrow (by simp) (fun k hk => by simp [Value.ownBlock] at hk; omega)
  have HB := Lib.hid hb
  have HO' := Lib.hid hown'
  clear hb hown' hnil hgrow
  go_wp2
  go_ret
  exact ⟨v', rfl, by simpa using HO'.out, HB.out⟩

theorem cloneV (o : Option Addr) (n c : Nat) (xs : List VoteD) (w : World) (h : Row w 2 rVote (.slice o n c) xs) (hn : n ≤ 1000) :
    Calls Try.prog 24 #[.slice o n c] w fun e w' => ∃ v, e = .returned v ∧ w'.ownsRow w.heap.size 68 2 v n (cellsV xs) ∧ Below w.heap.size w w' := by
  have hl := h.len
  cases o with
  | none =>
    obtain ⟨rfl, rfl, rfl⟩ := h.nil_
    refine (cloneV_nil w).mono ?_
    rintro e w' ⟨rfl, rfl⟩
    exact ⟨_, rfl, World.ownsRow_nil .., Below.refl _ _⟩
  | some a => exact cloneV_some a n c w hn (cellsV xs) (by rw [cellsV_length, hl]) (cellsV_one xs) (h.cellsV a rfl)
end Go.Proofs.Ytcleicjgeflbnaa
