/- The walks of asks: does a poll ask a user? slices.Index, Contains and Clone of []uint32, rank.Users. Conditions: a query names at most a hundred users of each kind. -/
import Derived.Test.YtcleicjgeflbnaaG19
namespace Go.Proofs.Ytcleicjgeflbnaa
open Go.RowKit Go.ChangeShapes Go.WideShapes Go.Deep

theorem indexU (o : Option Addr) (n c : Nat) (xs : List Int) (u : Int) (w : World) (h : Row w 1 (rI .u32) (.slice o n c) xs) (hn : n ≤ 1000) :
    Calls Try.prog 54 #[.slice o n c, .int .u32 u] w fun e w' => ∃ r : Int, e = .returned (.int .i64 r) ∧ (0 ≤ r ↔ u ∈ xs) ∧ w' = w := by
  have S := Lib.hid h
  have L := Lib.hid h.len
  clear h
  go_enter Try.func54, Try.ntmps54
  go_wp2_with fail
  go_loopw [8] (fun b wr => ∃ k : Nat, k ≤ n ∧ b = .int .i64 k ∧ wr = w ∧ Hid (∀ (i : Nat) y, i < k → xs[i]? = some y → y ≠ u)) (fun b _ => n - (intOf b).toNat)
  case atStart => exact ⟨0, Nat.zero_le _, rfl, rfl, fun i y hi => absurd hi (Nat.not_lt_zero _)⟩
  case round =>
    obtain ⟨k, hk, rfl, rfl, I⟩ := hrel
    by_cases hlt : k < n
    · have hlt' : (k : Int) < (n : Int) := by omega
      obtain ⟨y, a1, cs1, hx, rfl, q1, ⟨rfl, _⟩, q0, _⟩ := S.out.elem (Below.refl _ _) k hlt
      have e0 := q0 (by decide)
      simp only [List.getElem?_cons_zero, Nat.mul_one] at e0
      have Hx := Lib.hid hx
      clear q0 q1 hx
      by_cases hy : u = y
      · subst hy
        go_wp2_with fail
        go_ret
        exact ⟨_, rfl, ⟨fun _ => List.mem_of_getElem? Hx.out, fun _ => Int.natCast_nonneg _⟩, rfl⟩
      · have I2 := Lib.hid (show ∀ (i : Nat) z, i < k + 1 → xs[i]? = some z → z ≠ u from fun i z hi hz => by
          by_cases e : i = k
          · subst e; rw [Hx.out] at hz; cases hz; exact fun e => hy e.symm
          · exact I.out i z (by omega) hz)
        have b1 : (u == y) = false := by simpa using hy
        go_wp2_with fail
        go_roundw
        case measure => simp [intOf]; omega
        case rel => exact ⟨k + 1, by omega, by go_num, by trivial, I2.out⟩
    · obtain rfl : n = k := by omega
      go_wp2_with fail
      go_ret
      refine ⟨-1, rfl, ⟨fun h => absurd h (by decide), fun h => ?_⟩, rfl⟩
      obtain ⟨i, hi, rfl⟩ := List.getElem_of_mem h
      exact absurd rfl (I.out i _ (by have := L.out; omega) (List.getElem?_eq_getElem hi))

theorem containsU (o : Option Addr) (n c : Nat) (xs : List Int) (u : Int) (w : World) (h : Row w 1 (rI .u32) (.slice o n c) xs) (hn : n ≤ 1000) :
    Calls Try.prog 42 #[.slice o n c, .int .u32 u] w fun e w' => e = .returned (.bool (dec (u ∈ xs))) ∧ w' = w := by
  have C := Lib.hid (indexU o n c xs u w h hn)
  clear h
  go_enter Try.func42, Try.ntmps42
  go_wp2_with fail
  (with_reducible refine C.out.mono ?_)
  rintro e w1 ⟨r, rfl, hr, rfl⟩
  have HR := Lib.hid hr
  clear hr
  by_cases h0 : 0 ≤ r
  · have d0 := decide_eq_true h0
    go_wp2_with fail
    go_ret
    exact ⟨ret_t (HR.out.1 h0), rfl⟩
  · have d0 := decide_eq_false h0
    have h1 := Lib.hid (fun h => h0 (HR.out.2 h))
    go_wp2_with fail
    go_ret
    exact ⟨ret_f h1.out, rfl⟩

theorem below_alloc0 (w : World) (o : Obj) : Below w.heap.size w (w.alloc o) := (Below.refl _ _).alloc (Nat.le_refl _) o
theorem eq_nil48 (w : World) : (binOp BinOp.eql 48 (Value.slice none 0 0) (Value.slice none 0 0)).run Try.prog w = .ok (.bool true) w := by kernel_rfl
theorem eq_some48 (a : Addr) (n c : Nat) (w : World) : (binOp BinOp.eql 48 (Value.slice (some a) n c) (Value.slice none 0 0)).run Try.prog w = .ok (.bool false) w := by kernel_rfl
theorem info28 : (Try.prog.info? 28).map (fun i => (i.zero, i.size, i.bytes)) = some (some (.int .u32 0), 1, 4) := by kernel_rfl

theorem cloneU_nil (w : World) : Calls Try.prog 55 #[.slice none 0 0] w fun e w' => e = .returned (.slice none 0 0) ∧ w' = w := by
  have h := eq_nil48
  go_enter Try.func55, Try.ntmps55
  go_wp2
  go_ret
  exact ⟨rfl, rfl⟩

set_option maxRecDepth 100000 in
theorem cloneU_some (a : Addr) (n c : Nat) (w : World) (hn : n ≤ 100) (news : List Value) (hl : news.length = n * 1) (h1 : ∀ u ∈ news, u.oneCell' = true) (hc : ∀ j u, news[j]? = some u → w.cell? (a.add j) = some u) :
    Calls Try.prog 55 #[.slice (some a) n c] w fun e w' => ∃ v, e = .returned v ∧ w'.ownsRow w.heap.size 28 1 v n news ∧ Below w.heap.size w w' := by
  obtain ⟨i0, hi0, hz0, hz1, hz2⟩ := info_parts info28
  have h := eq_some48 a n c
  have HC := Lib.hid hc
  have H1 := Lib.hid h1
  have HL := Lib.hid hl
  clear hc h1 hl
  have hown : (w.alloc (.cells #[] 28)).ownsRow w.heap.size 28 1 (.slice (some ⟨w.heap.size, 0, none⟩) 0 0) 0 [] := World.ownsRow_lit w #[] 0 (Nat.le_refl _) (Nat.zero_le _) rfl
  have HO := Lib.hid hown
  clear hown
  go_enter Try.func55, Try.ntmps55
  go_wp2_with (at_builtin; refine wpList_append_own (w.alloc (.cells #[] 28)) rfl (.tmp 5) (.tmp 6) 48 rfl w.heap.size 28 i0 _ 1 4 Try.underlying48 hi0 hz0 hz1 hz2 rfl (by decide) (.slice (some ⟨w.heap.size, 0, none⟩) 0 0) 0 [] rfl HO.out a n c news rfl (by rw [HL.out]) ?c1 H1.out ?c3 ?c4 ?c5 ?_)
  case c1 => intro j u hu; have h := HC.out j u hu; rw [← h]; exact World.cell?_alloc_lt w _ _ (World.block_lt_of_cell? w _ h)
  case c3 => unfold maxLen; omega
  case c4 => omega
  case c5 => simp
  intro v' w2 hown' hgrow hnil
  have hb : Below w.heap.size w w2 := ((Below.refl _ _).alloc (Nat.le_refl _) _).grown hgrow (by simp) (fun k hk => by simp [Value.ownBlock] at hk; omega)
  have HB := Lib.hid hb
  have HO' := Lib.hid hown'
  clear hb hown' hnil hgrow
  go_wp2
  go_ret
  exact ⟨v', rfl, by simpa using HO'.out, HB.out⟩

def cellsU (xs : List Int) : List Value := xs.map (.int .u32)
theorem cellsU_one (xs : List Int) : ∀ u ∈ cellsU xs, u.oneCell' = true := by
  intro u hu
  obtain ⟨_, _, rfl⟩ := List.mem_map.1 hu
  rfl
theorem Row.cellsU {w : World} {o : Option Addr} {n c : Nat} {xs : List Int} (h : Row w 1 (rI .u32) (.slice o n c) xs) : ∀ a, o = some a → ∀ j u, (cellsU xs)[j]? = some u → w.cell? (a.add j) = some u := by
  rintro a rfl j u hu
  rw [Go.Proofs.Ytcleicjgeflbnaa.cellsU, List.getElem?_map, Option.map_eq_some_iff] at hu
  obtain ⟨x, hx, rfl⟩ := hu
  obtain ⟨o', n', c', e, _, _, _, _, h5⟩ := h
  simp only [Value.slice.injEq] at e
  obtain ⟨rfl, rfl, rfl⟩ := e
  obtain ⟨a', cs, ha, _, hj, rfl, _⟩ := h5 j x hx
  injection ha with ha
  subst ha
  have := hj 0 (by decide)
  simpa using this

theorem cloneU (o : Option Addr) (n c : Nat) (xs : List Int) (w : World) (h : Row w 1 (rI .u32) (.slice o n c) xs) (hn : n ≤ 100) :
    Calls Try.prog 55 #[.slice o n c] w fun e w' => ∃ v, e = .returned v ∧ w'.ownsRow w.heap.size 28 1 v n (cellsU xs) ∧ Below w.heap.size w w' := by
  have hl := h.len
  cases o with
  | none =>
    obtain ⟨rfl, rfl, rfl⟩ := h.nil_
    refine (cloneU_nil w).mono ?_
    rintro e w' ⟨rfl, rfl⟩
    exact ⟨_, rfl, World.ownsRow_nil .., Below.refl _ _⟩
  | some a => exact cloneU_some a n c w hn (cellsU xs) (by simp [cellsU, hl]) (cellsU_one xs) (h.cellsU a rfl)

def QueryD.users (q : QueryD) : List Int := q.must ++ q.may.map (·.user)

set_option maxHeartbeats 4000000 in
set_option maxRecDepth 100000 in
theorem users_any (cs : List Value) (q : QueryD) (w : World) (h : rQuery w cs q) (h1 : q.must.length ≤ 100) (h2 : q.may.length ≤ 100) :
    Calls Try.prog 43 #[.agg cs.toArray] w fun e w' => ∃ v, e = .returned v ∧ w'.ownsRow w.heap.size 28 1 v q.users.length (cellsU q.users) ∧ Below w.heap.size w w' := by
  obtain ⟨i0, hi0, hz0, hz1, hz2⟩ := info_parts info28
  obtain ⟨qm, qy, qa, qp, rfl, _, _, _, _, _, hm, hy, ⟨oa, na, ca, rfl, _⟩, ⟨op, np, cp, rfl, _⟩⟩ := h
  obtain ⟨om, nm, cm, rfl, lm, _, _, RM⟩ := hm.open
  obtain ⟨oy, ny, cy, rfl, ly, _, _, RY⟩ := hy.open
  have SM := Lib.hid RM; have SY := Lib.hid RY; have LM := Lib.hid lm; have LY := Lib.hid ly
  have hnm : nm ≤ 100 := by omega
  have hny : ny ≤ 100 := by omega
  have HB := Lib.hid (below_alloc0 w (.cells #[.int .i64 q.from_, .int .i64 q.to_, .int .i64 q.long, .int .i64 q.grid, .slice om nm cm, .slice oy ny cy, .int .i64 q.seats, .slice oa na ca, .slice op np cp] 52))
  have C := Lib.hid (fun (W : World) (hb : Below w.heap.size w W) => cloneU om nm cm q.must W (SM.out.later' hb) hnm)
  clear hm hy RM RY lm ly h1 h2
  go_enter Try.func43, Try.ntmps43
  go_wp2_with fail
  (with_reducible refine (C.out _ HB.out).mono ?_)
  rintro e w1 ⟨v, rfl, hown, hb1⟩
  have kA1 : ∀ j, World.cell? w1 ⟨w.heap.size, j, none⟩ = World.cell? (w.alloc (.cells #[.int .i64 q.from_, .int .i64 q.to_, .int .i64 q.long, .int .i64 q.grid, .slice om nm cm, .slice oy ny cy, .int .i64 q.seats, .slice oa na ca, .slice op np cp] 52)) ⟨w.heap.size, j, none⟩ := fun j => hb1.cell (by simp)
  have HB1 := Lib.hid (below_call HB.out hb1)
  have HO := Lib.hid (show w1.ownsRow w.heap.size 28 1 v nm (cellsU q.must) from ⟨hown.1, hown.2.imp id fun ⟨g, cap, cur, e, hb, r⟩ => ⟨g, cap, cur, e, Nat.le_trans (by simp) hb, r⟩⟩)
  clear hown hb1
  go_wp2_with fail
  go_loopw [3, 12] (fun s b wr => ∃ (k : Nat) (v : Value), k ≤ ny ∧ b = .int .i64 k ∧ s = v ∧ Hid (wr.ownsRow w.heap.size 28 1 v (nm + k) (cellsU (q.must ++ (q.may.take k).map (·.user)))) ∧ Hid (Below w.heap.size w wr) ∧ w.heap.size ≤ wr.heap.size) (fun _ b _ => ny - (intOf b).toNat)
  case atStart => exact ⟨0, v, Nat.zero_le _, rfl, rfl, by simpa [Hid] using HO.out, HB1.out, HB1.out.size⟩
  case round =>
    clear kA1
    obtain ⟨k, vv, hk, rfl, rfl, O, B, hz⟩ := hrel
    obtain ⟨wl, rfl⟩ : ∃ x, x = wr := ⟨_, rfl⟩
    by_cases hlt : k < ny
    · have hlt' : (k : Int) < (ny : Int) := by omega
      obtain ⟨y, a1, cs1, hx, rfl, q1, ⟨rfl, _, _⟩, q0, q2⟩ := SY.out.elem B.out k hlt
      have e0 := q0 (by decide)
      have e1 := q2 1 (by decide) (by decide)
      simp only [List.getElem?_cons_zero, List.getElem?_cons_succ] at e0 e1
      have Hx := Lib.hid hx
      clear q0 q1 q2 hx
      have HOb := Lib.hid ((O.out.alloc (.cells #[.int .u32 y.user, .int .i64 y.weight] 119)).alloc (.cells #[.int .u32 y.user] 28))
      have HBb := Lib.hid ((B.out.alloc hz (.cells #[.int .u32 y.user, .int .i64 y.weight] 119)).alloc (by simp; omega) (.cells #[.int .u32 y.user] 28))
      have HV := Lib.hid (fun j hj => (O.out.lt j hj).1)
      go_wp2_with (at_builtin; refine wpList_append_own ((wl.alloc (.cells #[.int .u32 y.user, .int .i64 y.weight] 119)).alloc (.cells #[.int .u32 y.user] 28)) rfl (.tmp 16) (.tmp 19) 48 rfl w.heap.size 28 i0 _ 1 4 Try.underlying48 hi0 hz0 hz1 hz2 rfl (by decide) _ (nm + k) (cellsU (q.must ++ (q.may.take k).map (·.user))) rfl HOb.out ⟨wl.heap.size + 1, 0, none⟩ 1 1 [.int .u32 y.user] rfl (by rfl) ?c1 (cellsU_one [y.user]) ?c3 ?c4 ?c5 ?_)
      case c1 =>
        intro j u hu
        have hj : j = 0 := by have := (List.getElem?_eq_some_iff.1 hu).1; simp at this; exact this
        subst hj
        have h0 : (⟨wl.heap.size + 1, 0, none⟩ : Addr).add 0 = ⟨wl.heap.size + 1, 0, none⟩ := by unfold Addr.add; simp
        rw [h0, cell_of_row _ _ _ _ _ _ (heap_alloc2_new wl _ _)]
        simpa using hu
      case c3 => unfold maxLen; omega
      case c4 => omega
      case c5 => simp; omega
      intro v' w2 hown' hgrow hnil
      have HB2 := Lib.hid (HBb.out.grown hgrow (by simp; omega) (fun j hj => HV.out j hj))
      have HO2 := Lib.hid (show w2.ownsRow w.heap.size 28 1 v' (nm + (k + 1)) (cellsU (q.must ++ (q.may.take (k + 1)).map (·.user))) by
        rw [List.take_add_one, Hx.out]
        simpa [cellsU, Nat.add_assoc] using hown')
      clear hown' hgrow hnil e0 e1
      go_wp2_with fail
      go_roundw
      case measure => simp [intOf]; omega
      case rel => exact ⟨k + 1, v', by omega, by go_num, rfl, HO2.out, HB2.out, HB2.out.size⟩
    · obtain rfl : ny = k := by omega
      have hu : cellsU q.users = cellsU (q.must ++ (q.may.take ny).map (·.user)) := by rw [List.take_of_length_le (by rw [LY.out]; exact Nat.le_refl _)]; rfl
      have hl : q.users.length = nm + ny := by simp [QueryD.users, LM.out, LY.out]
      have HU := Lib.hid hu; have HL := Lib.hid hl
      clear hu hl
      go_wp2_with fail
      go_ret
      exact ⟨_, rfl, by rw [HU.out, HL.out]; exact O.out, B.out⟩
end Go.Proofs.Ytcleicjgeflbnaa
