/- rule.daysOf: the days of a row. Conditions: the tables are laid; what a piece's number is is told. -/
import Derived.Test.YtcleicjgeflbnaaGreatDoorV8
import Derived.Deep.AppendLies
namespace Go.Proofs.YtcleicjgeflbnaaGreatDoor
open Go.RowKit Go.ChangeShapes Go.WideShapes Go.Deep
set_option linter.all false
attribute [local go_sem] Oper.semAt_some

theorem splitc_le (d : UInt8) : ∀ l : List UInt8, (splitc d l).length ≤ l.length + 1 ∧ ∀ x ∈ splitc d l, x.length ≤ l.length
  | [] => by simp [splitc]
  | b :: r => by
    have ih := splitc_le d r
    rw [splitc]
    split
    · refine ⟨by simp only [List.length_cons]; omega, fun x hx => ?_⟩
      rcases List.mem_cons.1 hx with rfl | hx
      · simp
      · have := ih.2 x hx; simp only [List.length_cons]; omega
    · have hne := splitc_ne d r
      cases hq : splitc d r with
      | nil => exact absurd hq hne
      | cons y t =>
        rw [hq] at ih
        simp only [List.headD_cons, List.tail_cons, List.length_cons] at ih ⊢
        refine ⟨by omega, fun x hx => ?_⟩
        rcases List.mem_cons.1 hx with rfl | hx
        · have := ih.2 y (List.mem_cons_self ..); simp only [List.length_cons]; omega
        · have := ih.2 x (List.mem_cons_of_mem _ hx); omega
theorem splitB_le (d : UInt8) (s : ByteArray) : (splitB d s).length ≤ s.size + 1 ∧ ∀ x ∈ splitB d s, x.size ≤ s.size := by
  have h := splitc_le d s.data.toList
  have hl : s.data.toList.length = s.size := by simp
  rw [hl] at h
  refine ⟨by rw [splitB, List.length_map]; exact h.1, fun x hx => ?_⟩
  obtain ⟨y, hy, rfl⟩ := List.mem_map.1 hx
  rw [toB_size]
  exact h.2 y hy
def dnC (l : List DayND) : List Value := l.flatMap fun d => [.int .i64 d.n, .int .i64 d.day]
theorem dnC_append (a b : List DayND) : dnC (a ++ b) = dnC a ++ dnC b := by simp [dnC]
theorem own_turned {B c base : Nat} {W W' : World} {e : TypeId} {size n : Nat} {v : Value} {xs : List Value} (h : W.ownsRow base e size v n xs) (ht : Turned B c W W') (h1 : c < base) (h2 : B + 1 < base) : W'.ownsRow base e size v n xs := by
  obtain ⟨hl, h0 | ⟨g, cap, cur, e, a1, a2, a3⟩⟩ := h
  · exact ⟨hl, .inl h0⟩
  · exact ⟨hl, .inr ⟨g, cap, cur, e, a1, (ht.block g (Array.getElem?_eq_some_iff.1 a2).1 (by omega) (by omega) (by omega)).trans a2, a3⟩⟩
/-- What lies in memory while a row of days is read. -/
structure DS (w : World) (l : List DayND) (W : World) : Prop where
  out : ∃ v, W.heap[w.heap.size]? = some (.cells #[v] 24 (0, 0)) ∧ W.ownsRow (w.heap.size + 6) 36 2 v l.length (dnC l)
  bel : Below w.heap.size w W
theorem DS.turned {w W W' : World} {l : List DayND} (h : DS w l W) (ht : Turned (w.heap.size + 4) (w.heap.size + 1) W W') : DS w l W' := by
  obtain ⟨⟨v, h1, h2⟩, h3⟩ := h
  exact ⟨⟨v, (ht.block _ (Array.getElem?_eq_some_iff.1 h1).1 (by omega) (by omega) (by omega)).trans h1, own_turned h2 ht (by omega) (by omega)⟩,
    h3.trans ⟨ht.os, ht.tape, ht.output, ht.size, fun k hk => ht.block k (by have := h3.size; omega) (by omega) (by omega) (by omega)⟩⟩
def dayF (numZ : ByteArray → Int) (x : ByteArray) : DayND := ⟨numZ (x.extract 0 (x.size - 2)), idxL daysL (x.extract (x.size - 2) x.size).data.toList⟩

theorem own_later2 {w w' : World} {B : Nat} {v : Value} {n : Nat} {xs : List Value} (h : w.ownsRow B 36 2 v n xs) (hb : Below w.heap.size w w') : w'.ownsRow B 36 2 v n xs := by
  obtain ⟨h1, h2 | ⟨g, cap, cur, e, a1, a2, a3⟩⟩ := h
  · exact ⟨h1, .inl h2⟩
  · exact ⟨h1, .inr ⟨g, cap, cur, e, a1, (hb.block g (Array.getElem?_eq_some_iff.1 a2).1).trans a2, a3⟩⟩
theorem info36 : (Tryz.prog.info? 36).map (fun i => (i.zero, i.size, i.bytes)) = some (some (.agg #[.int .i64 0, .int .i64 0]), 2, 16) := by kernel_rfl
theorem under24 : Tryz.prog.underlying 24 = some (.slice 36) := by kernel_rfl
theorem box_grown {w Wc w2 W : World} {v : Value} {n : Nat} {xs : List Value} (hO : W.heap[w.heap.size]? = some (.cells #[v] 24 (0, 0))) (hb : Below W.heap.size W Wc) (hown : Wc.ownsRow (w.heap.size + 6) 36 2 v n xs) (hg : Wc.grownBy w2 v.ownBlock) : w2.heap[w.heap.size]? = some (.cells #[v] 24 (0, 0)) := by
  have hlt := (Array.getElem?_eq_some_iff.1 hO).1
  rw [hg.block w.heap.size (by have := hb.size; omega) (fun e => by have := (hown.lt _ e.symm).1; omega), hb.block _ hlt, hO]
theorem DS.done {w W Wc w2 : World} {l : List DayND} {v v' : Value} {d : DayND} {n : Nat} (hn : n = l.length) (hsz : w.heap.size + 6 ≤ W.heap.size) (hO : W.heap[w.heap.size]? = some (.cells #[v] 24 (0, 0))) (hbel : Below w.heap.size w W)
    (hb : Below W.heap.size W Wc) (hown : Wc.ownsRow (w.heap.size + 6) 36 2 v n (dnC l)) (hown2 : w2.ownsRow (w.heap.size + 6) 36 2 v' (n + 1) (dnC l ++ [.int .i64 d.n, .int .i64 d.day])) (hg : Wc.grownBy w2 v.ownBlock) :
    DS w (l ++ [d]) (w2.setCell ⟨w.heap.size, 0, none⟩ v') ∧ ∀ k, w.heap.size + 1 ≤ k → k < w.heap.size + 6 → (w2.setCell ⟨w.heap.size, 0, none⟩ v').heap[k]? = W.heap[k]? := by
  have h1 := box_grown hO hb hown hg
  have hlt := (Array.getElem?_eq_some_iff.1 hO).1
  have hk : ∀ k, k < w.heap.size + 6 → k < W.heap.size → w2.heap[k]? = W.heap[k]? := fun k hk1 hk2 => (hg.block k (by have := hb.size; omega) (fun e => by have := (hown.lt _ e.symm).1; omega)).trans (hb.block k hk2)
  refine ⟨⟨⟨v', ?_, ?_⟩, ?_⟩, fun k h1 h2 => (Below.heap_setCell _ _ _ _ (by simp only; omega)).trans (hk k h2 (by omega))⟩
  · exact heap_setCell_same _ _ _ _ _ _ h1
  · have e : (l ++ [d]).length = n + 1 := by rw [List.length_append, hn]; rfl
    have e2 : dnC (l ++ [d]) = dnC l ++ [.int .i64 d.n, .int .i64 d.day] := by simp [dnC]
    rw [e, e2]
    obtain ⟨hl, h0 | ⟨g, cap, cur, e3, a1, a2, a3⟩⟩ := hown2
    · exact ⟨hl, .inl h0⟩
    · exact ⟨hl, .inr ⟨g, cap, cur, e3, a1, (Below.heap_setCell _ _ _ _ (by simp only; omega)).trans a2, a3⟩⟩
  · refine (show Below w.heap.size w w2 from ?_).setCell (Nat.le_refl _) _
    refine ⟨hg.os.trans (hb.os.trans hbel.os), hg.tape.trans (hb.tape.trans hbel.tape), hg.output.trans (hb.output.trans hbel.output), Nat.le_trans hbel.size (Nat.le_trans hb.size hg.size), fun k hk1 => (hk k (by omega) (by omega)).trans (hbel.block k hk1)⟩

set_option maxRecDepth 100000 in
set_option maxHeartbeats 8000000 in
theorem daysOf_in (s : ByteArray) (hs : s.size ≤ 1000000) (w : World) (hL : Laid w) (numZ : ByteArray → Int)
    (hN : ∀ x W, x.size ≤ 1000000 → Below w.heap.size w W → Calls Tryz.prog 40 #[.string x] W fun e w' => e = .returned (.int .i64 (numZ x)) ∧ Below W.heap.size W w') :
    CallsIn Fence.wide 5 Tryz.prog 48 #[.string s] w fun e w' => ∃ v, e = .returned v ∧ w'.ownsRow (w.heap.size + 6) 36 2 v (splitB 44 s).length (dnC ((splitB 44 s).map (dayF numZ))) ∧ Below w.heap.size w w' := by
  have HL := Lib.hid hL
  have HN := Lib.hid hN
  have HLE := Lib.hid (splitB_le 44 s)
  clear hL hN
  refine callsIn_of_wp_marks Tryz.func48 rfl trivial ?_ rfl
  simp only [Tryz.ntmps48, List.size_toArray, List.length_cons, List.length_nil, Nat.reduceAdd, Nat.reduceSub, Array.replicate_succ, Array.replicate_zero, List.push_toArray, List.append_toArray, List.nil_append, List.cons_append]
  gi_wp2
  refine ⟨trivial, ?_⟩
  refine (callsIn_wide.2 (SplitSeq_any 44 s _)).mono ?_
  rintro e w1 ⟨rfl, rfl⟩
  obtain ⟨WS, hWS⟩ : ∃ WS, WS = splitW 44 s (w.alloc (.cells #[.slice none 0 0] 24)) := ⟨_, rfl⟩
  rw [← hWS]
  have hszW : WS.heap.size = w.heap.size + 4 := by rw [hWS]; simp [splitW]
  have go : WS.heap[w.heap.size]? = some (.cells #[.slice none 0 0] 24 (0, 0)) := by
    rw [hWS]; unfold splitW
    rw [Below.heap_alloc _ _ _ (by simp only [World.size_alloc]; omega), Below.heap_alloc _ _ _ (by simp only [World.size_alloc]; omega), Below.heap_alloc _ _ _ (by simp)]
    exact heap_alloc_new _ _
  have g0 : WS.heap[w.heap.size + 1]? = some (.cells #[.string s] 9 (0, 0)) := by
    rw [hWS]; unfold splitW
    rw [Below.heap_alloc _ _ _ (by simp only [World.size_alloc]; omega), Below.heap_alloc _ _ _ (by simp)]
    have := heap_alloc_new (w.alloc (.cells #[.slice none 0 0] 24)) (.cells #[.string s] 9)
    rwa [World.size_alloc] at this
  have g1 : WS.heap[w.heap.size + 1 + 1]? = some (.cells #[.string ⟨#[44]⟩] 9 (0, 0)) := by
    rw [hWS]; unfold splitW
    rw [Below.heap_alloc _ _ _ (by simp only [World.size_alloc]; omega)]
    have := heap_alloc_new ((w.alloc (.cells #[.slice none 0 0] 24)).alloc (.cells #[.string s] 9)) (.cells #[.string ⟨#[44]⟩] 9)
    rwa [World.size_alloc, World.size_alloc] at this
  have g2 : WS.heap[w.heap.size + 1 + 2]? = some (.cells #[.int .i64 0] 3 (0, 0)) := by
    rw [hWS]; unfold splitW
    have := heap_alloc_new (((w.alloc (.cells #[.slice none 0 0] 24)).alloc (.cells #[.string s] 9)).alloc (.cells #[.string ⟨#[44]⟩] 9)) (.cells #[.int .i64 0] 3)
    rwa [World.size_alloc, World.size_alloc, World.size_alloc] at this
  have hbW : Below w.heap.size w WS := by rw [hWS]; exact belowA _ (belowA _ (belowA _ (belowA _ (Below.refl _ _))))
  have HG := Lib.hid (And.intro go (And.intro g0 (And.intro g1 (And.intro g2 hbW))))
  clear go g0 g1 g2 hbW hWS
  gi_wp2
  refine range_box (n := 5) (w.heap.size + 1) rfl (enters_of Tryz.func71 (by kernel_rfl) rfl) (encs := fun x : ByteArray => #[.string x]) (fun _ => rfl) (splitB 44 s)
    (fun pre W => DS w (pre.map (dayF numZ)) W) (by omega) ?turned ?start (fun x => { tmps := #[.string s, undef, .slice none 0 0, .pointer (some ⟨w.heap.size, 0, none⟩), .string x, undef, .string s, .func (.func 71) #[] #[.pointer (some ⟨w.heap.size + 1 + 1, 0, none⟩), .pointer (some ⟨w.heap.size + 1, 0, none⟩), .pointer (some ⟨w.heap.size + 1 + 2, 0, none⟩)], .string x, undef, undef, undef, undef, undef, undef, undef, undef, undef, undef, undef, undef, undef, undef, undef, undef, undef, undef], defers := [] }) ?assign ?body ?seq (by omega) ?done
  case turned =>
    intro pre W W' ht h
    exact h.turned (by rw [← hszW]; exact ht)
  case start => exact ⟨⟨_, HG.out.1, World.ownsRow_nil _ _ _ _⟩, HG.out.2.2.2.2⟩
  case assign =>
    intro l x W K hK
    gi_wp2
    exact hK
  case seq =>
    intro l J W1 h1 hJc hY hj
    exact split_in 44 4 l (w.heap.size + 1) s J W1 hJc hY ((h1 _ (by omega)).trans HG.out.2.1) ((h1 _ (by omega)).trans HG.out.2.2.1) ((h1 _ (by omega)).trans HG.out.2.2.2.1) hs hj
  case body =>
    intro l pre x W hsz hpx h
    have hxm : x ∈ splitB 44 s := by obtain ⟨post, e⟩ := hpx; rw [e]; simp
    have hxs : x.size ≤ 1000000 := Nat.le_trans (HLE.out.2 x hxm) hs
    have hpl : pre.length ≤ 1000000 := by
      obtain ⟨post, e⟩ := hpx
      have := HLE.out.1
      rw [e] at this
      simp only [List.length_append, List.length_cons] at this
      omega
    obtain ⟨⟨v, hO, hown⟩, hbel⟩ := h
    have hmix : Tryz.prog.follows .mixedOrders = true := by kernel_rfl
    obtain ⟨i36, hi, hz0, hz1, hz2⟩ := info_parts info36
    obtain ⟨a, ha⟩ : ∃ a, a = x.size - 2 := ⟨_, rfl⟩
    have hmx : max ((x.size : Int) - 2) 0 = (a : Int) := by omega
    have hax : a ≤ x.size := by omega
    obtain ⟨n, hn⟩ : ∃ n, n = (pre.map (dayF numZ)).length := ⟨_, rfl⟩
    rw [← hn] at hown
    have hn6 : n ≤ 1000000 := by rw [hn, List.length_map]; exact hpl
    obtain ⟨nz, hnz⟩ : ∃ nz, nz = numZ (x.extract 0 a) := ⟨_, rfl⟩
    obtain ⟨ix, hix⟩ : ∃ ix, ix = idxL daysL (x.extract a x.size).data.toList := ⟨_, rfl⟩
    have hf : dayF numZ x = ⟨nz, ix⟩ := by rw [hnz, hix, ha]; rfl
    have cO : W.cell? ⟨w.heap.size, 0, none⟩ = some v := by rw [cell_of_row _ _ _ _ _ _ hO]; rfl
    have hlt := (Array.getElem?_eq_some_iff.1 hO).1
    have hsz6 : w.heap.size + 6 ≤ W.heap.size := by omega
    have B0 := Lib.hid (Below.refl W.heap.size W)
    have C40 := Lib.hid (fun W1 (hb : Below W.heap.size W W1) => HN.out (x.extract 0 a) W1 (by simp only [ByteArray.size_extract]; omega) (hbel.trans (hb.mono hbel.size)))
    rw [← hnz] at C40
    have F25 := Lib.hid (fun W1 (hb : Below W.heap.size W W1) => daysF W1 (HL.out.later (hbel.trans (hb.mono hbel.size))))
    have C38 := Lib.hid (fun (W1 : World) => (show Calls Tryz.prog 38 #[.slice (some ⟨W1.heap.size, 0, none⟩) 7 7, .string (x.extract a x.size)] (W1.alloc (.cells daysC 9)) _ from index_any daysL (x.extract a x.size) W1.heap.size 7 (W1.alloc (.cells daysC 9)) (fun j y hy => by
      rw [cell_of_row _ _ _ _ _ _ (heap_alloc_new W1 (.cells daysC 9))]
      show (daysL.map fun l => Value.string ⟨l.toArray⟩).toArray[j]? = _
      rw [List.getElem?_toArray, List.getElem?_map, hy]
      rfl) (by decide)))
    rw [← hix] at C38
    have OW := Lib.hid (fun W1 (hb : Below W.heap.size W W1) => own_later2 hown hb)
    have HBEL := Lib.hid hbel
    have HNL := Lib.hid hn
    have HF := Lib.hid hf
    clear hpx hxm hown hbel hn hnz hix hf ha hpl
    gi_wp2
    refine region_in l _ 5 hmix (by kernel_rfl) (by rintro ⟨_, _, h⟩; exact h) ?_
    simp only [List.size_toArray, List.length_cons, List.length_nil, Nat.reduceAdd, Array.replicate_succ, Array.replicate_zero, List.push_toArray, List.nil_append, List.cons_append]
    refine wpAny_take (i := 1) (v := ?_) rfl (by kernel_rfl) (by kernel_rfl) (by kernel_rfl) (fun _ _ _ h => h) (Or.inl ⟨by rfl, ?_⟩) ?_
    rotate_left
    · intro w; go_simp; try with_reducible rfl
    refine wpAny_take (i := 2) (v := ?_) rfl (by kernel_rfl) (by kernel_rfl) (by kernel_rfl) (fun _ _ _ h => h) (Or.inl ⟨by rfl, ?_⟩) ?_
    rotate_left
    · intro w; go_simp; try with_reducible rfl
    refine wpAny_take (i := 6) (v := ?_) rfl (by kernel_rfl) (by kernel_rfl) (by kernel_rfl) (fun _ _ _ h => h) (Or.inl ⟨by rfl, ?_⟩) ?_
    rotate_left
    · intro w; go_simp; try with_reducible rfl
    refine wpAny_take (i := 7) (v := ?_) rfl (by kernel_rfl) (by kernel_rfl) (by kernel_rfl) (fun _ _ _ h => h) (Or.inl ⟨by rfl, ?_⟩) ?_
    rotate_left
    · intro w; go_simp; try with_reducible rfl
    refine wpAny_take (i := 3) (v := ?_) rfl (by kernel_rfl) (by kernel_rfl) (by kernel_rfl) (fun _ _ _ h => h) (Or.inl ⟨by rfl, ?_⟩) ?_
    rotate_left
    · intro w; go_simp; try with_reducible rfl
    refine wpAny_take (i := 8) (v := ?_) rfl (by kernel_rfl) (by kernel_rfl) (by kernel_rfl) (fun _ _ _ h => h) (Or.inl ⟨by rfl, ?_⟩) ?_
    rotate_left
    · intro w; go_simp; try with_reducible rfl
    refine wpAny_ready (rs := [0, 4]) (by kernel_rfl) (by simp) ?_
    refine AllReady.cons rfl (fun K hK => ?_) ?_
    · go_simp
      refine hK _ _ ?_; clear hK K
      refine wpAny_ready (rs := [4]) (by kernel_rfl) (by simp) ?_
      refine AllReady.cons rfl (fun K hK => ?_) ?_
      · go_simp
        refine (C40.out _ (by first | exact B0.out | exact B0.out.drew)).mono ?_
        rintro e w1 ⟨rfl, hb1⟩
        have B1 := Lib.hid (show Below W.heap.size W w1 from ⟨hb1.os, hb1.tape, hb1.output, hb1.size, hb1.block⟩)
        have cO1 : w1.cell? ⟨w.heap.size, 0, none⟩ = some v := (B1.out.cell (p := ⟨w.heap.size, 0, none⟩) hlt).trans cO
        have hl1 : w.heap.size < w1.heap.size := Nat.lt_of_lt_of_le hlt B1.out.size
        clear hb1
        go_simp
        refine hK _ _ ?_; clear hK K
        refine wpAny_ready (rs := [5]) (by kernel_rfl) (by simp) ?_
        refine AllReady.cons rfl (fun K hK => ?_) ?_
        · go_simp
          refine (F25.out _ B1.out).mono ?_
          rintro e w2 ⟨rfl, rfl⟩
          go_simp
          refine hK _ _ ?_; clear hK K
          refine wpAny_ready (rs := [9]) (by kernel_rfl) (by simp) ?_
          refine AllReady.cons rfl (fun K hK => ?_) ?_
          · go_simp
            refine (C38.out w1).mono ?_
            rintro e w2 ⟨rfl, rfl⟩
            go_simp
            refine hK _ _ ?_; clear hK K
            refine wpAny_take (i := 10) (v := ?_) rfl (by kernel_rfl) (by kernel_rfl) (by kernel_rfl) (fun _ _ _ h => h) (Or.inl ⟨by rfl, ?_⟩) ?_
            rotate_left
            · intro w; go_simp; try with_reducible rfl
            refine wpAny_ready (rs := [11]) (by kernel_rfl) (by simp) ?_
            refine AllReady.cons rfl (fun K hK => ?_) ?_
            · go_simp
              refine hK _ _ ?_; clear hK K
              refine wpAny_ready (rs := [12]) (by kernel_rfl) (by simp) ?_
              refine AllReady.cons rfl (fun K hK => ?_) ?_
              · refine step_append_lies _ rfl (.tmp 13) (.tmp 24) 24 rfl (w.heap.size + 6) 36 i36 (.agg #[.int .i64 0, .int .i64 0]) 2 16 under24 hi hz0 hz1 hz2 rfl (by decide) v n (dnC (pre.map (dayF numZ))) rfl (OW.out _ (belowA _ (belowA _ B1.out))) ⟨w1.heap.size + 1, 0, none⟩ 1 1 [.int .i64 nz, .int .i64 ix] rfl rfl (by
                  intro j u hj
                  match j, hj with
                  | 0, hj => simp at hj; subst hj; simp [Addr.add]
                  | 1, hj => simp at hj; subst hj; simp [Addr.add]
                  | (_ + 2), hj => simp at hj) (by intro u hu; simp at hu; rcases hu with rfl | rfl <;> rfl) (by omega) (by unfold maxLen; omega) (by omega) (by have := B1.out.size; simp; omega) _ rfl ?_
                intro g cap w2 hown2 hgrow _ hg2
                refine hK _ _ ?_; clear hK K
                have kO2 := box_grown hO (belowA _ (belowA _ B1.out)) (OW.out _ (belowA _ (belowA _ B1.out))) hgrow
                have cO2 : w2.cell? ⟨w.heap.size, 0, none⟩ = some v := by rw [cell_of_row _ _ _ _ _ _ kO2]; rfl
                have fO2 : w2.frozen? ⟨w.heap.size, 0, none⟩ = false := frozen_of_row _ _ _ _ _ kO2
                have FIN := Lib.hid (DS.done HNL.out hsz6 hO HBEL.out (belowA _ (belowA _ B1.out)) (OW.out _ (belowA _ (belowA _ B1.out))) (d := ⟨nz, ix⟩) hown2 hgrow)
                clear hown2 hgrow kO2
                refine wpAny_ready (rs := [13]) (by kernel_rfl) (by simp) ?_
                refine AllReady.cons rfl (fun K hK => ?_) ?_
                · go_simp
                  refine hK _ _ ?_; clear hK K
                  refine wpAny_done (by kernel_rfl) ?_ _
                  exact ⟨fun k h1 h2 => FIN.out.2 k h1 (by omega), by rw [List.map_append, List.map_cons, List.map_nil, HF.out]; exact FIN.out.1⟩
                exact AllReady.nil
              exact AllReady.nil
            exact AllReady.nil
          exact AllReady.nil
        exact AllReady.nil
      exact AllReady.nil
    refine AllReady.cons rfl (fun K hK => ?_) ?_
    · go_simp
      refine (C40.out _ (by first | exact B0.out | exact B0.out.drew)).mono ?_
      rintro e w1 ⟨rfl, hb1⟩
      have B1 := Lib.hid (show Below W.heap.size W w1 from ⟨hb1.os, hb1.tape, hb1.output, hb1.size, hb1.block⟩)
      have cO1 : w1.cell? ⟨w.heap.size, 0, none⟩ = some v := (B1.out.cell (p := ⟨w.heap.size, 0, none⟩) hlt).trans cO
      have hl1 : w.heap.size < w1.heap.size := Nat.lt_of_lt_of_le hlt B1.out.size
      clear hb1
      go_simp
      refine hK _ _ ?_; clear hK K
      refine wpAny_ready (rs := [0, 5]) (by kernel_rfl) (by simp) ?_
      refine AllReady.cons rfl (fun K hK => ?_) ?_
      · go_simp
        refine hK _ _ ?_; clear hK K
        refine wpAny_ready (rs := [5]) (by kernel_rfl) (by simp) ?_
        refine AllReady.cons rfl (fun K hK => ?_) ?_
        · go_simp
          refine (F25.out _ B1.out).mono ?_
          rintro e w2 ⟨rfl, rfl⟩
          go_simp
          refine hK _ _ ?_; clear hK K
          refine wpAny_ready (rs := [9]) (by kernel_rfl) (by simp) ?_
          refine AllReady.cons rfl (fun K hK => ?_) ?_
          · go_simp
            refine (C38.out w1).mono ?_
            rintro e w2 ⟨rfl, rfl⟩
            go_simp
            refine hK _ _ ?_; clear hK K
            refine wpAny_take (i := 10) (v := ?_) rfl (by kernel_rfl) (by kernel_rfl) (by kernel_rfl) (fun _ _ _ h => h) (Or.inl ⟨by rfl, ?_⟩) ?_
            rotate_left
            · intro w; go_simp; try with_reducible rfl
            refine wpAny_ready (rs := [11]) (by kernel_rfl) (by simp) ?_
            refine AllReady.cons rfl (fun K hK => ?_) ?_
            · go_simp
              refine hK _ _ ?_; clear hK K
              refine wpAny_ready (rs := [12]) (by kernel_rfl) (by simp) ?_
              refine AllReady.cons rfl (fun K hK => ?_) ?_
              · refine step_append_lies _ rfl (.tmp 13) (.tmp 24) 24 rfl (w.heap.size + 6) 36 i36 (.agg #[.int .i64 0, .int .i64 0]) 2 16 under24 hi hz0 hz1 hz2 rfl (by decide) v n (dnC (pre.map (dayF numZ))) rfl (OW.out _ (belowA _ (belowA _ B1.out))) ⟨w1.heap.size + 1, 0, none⟩ 1 1 [.int .i64 nz, .int .i64 ix] rfl rfl (by
                  intro j u hj
                  match j, hj with
                  | 0, hj => simp at hj; subst hj; simp [Addr.add]
                  | 1, hj => simp at hj; subst hj; simp [Addr.add]
                  | (_ + 2), hj => simp at hj) (by intro u hu; simp at hu; rcases hu with rfl | rfl <;> rfl) (by omega) (by unfold maxLen; omega) (by omega) (by have := B1.out.size; simp; omega) _ rfl ?_
                intro g cap w2 hown2 hgrow _ hg2
                refine hK _ _ ?_; clear hK K
                have kO2 := box_grown hO (belowA _ (belowA _ B1.out)) (OW.out _ (belowA _ (belowA _ B1.out))) hgrow
                have cO2 : w2.cell? ⟨w.heap.size, 0, none⟩ = some v := by rw [cell_of_row _ _ _ _ _ _ kO2]; rfl
                have fO2 : w2.frozen? ⟨w.heap.size, 0, none⟩ = false := frozen_of_row _ _ _ _ _ kO2
                have FIN := Lib.hid (DS.done HNL.out hsz6 hO HBEL.out (belowA _ (belowA _ B1.out)) (OW.out _ (belowA _ (belowA _ B1.out))) (d := ⟨nz, ix⟩) hown2 hgrow)
                clear hown2 hgrow kO2
                refine wpAny_ready (rs := [13]) (by kernel_rfl) (by simp) ?_
                refine AllReady.cons rfl (fun K hK => ?_) ?_
                · go_simp
                  refine hK _ _ ?_; clear hK K
                  refine wpAny_done (by kernel_rfl) ?_ _
                  exact ⟨fun k h1 h2 => FIN.out.2 k h1 (by omega), by rw [List.map_append, List.map_cons, List.map_nil, HF.out]; exact FIN.out.1⟩
                exact AllReady.nil
              exact AllReady.nil
            exact AllReady.nil
          exact AllReady.nil
        exact AllReady.nil
      refine AllReady.cons rfl (fun K hK => ?_) ?_
      · go_simp
        refine (F25.out _ B1.out).mono ?_
        rintro e w2 ⟨rfl, rfl⟩
        go_simp
        refine hK _ _ ?_; clear hK K
        refine wpAny_ready (rs := [0, 9]) (by kernel_rfl) (by simp) ?_
        refine AllReady.cons rfl (fun K hK => ?_) ?_
        · go_simp
          refine hK _ _ ?_; clear hK K
          refine wpAny_ready (rs := [9]) (by kernel_rfl) (by simp) ?_
          refine AllReady.cons rfl (fun K hK => ?_) ?_
          · go_simp
            refine (C38.out w1).mono ?_
            rintro e w2 ⟨rfl, rfl⟩
            go_simp
            refine hK _ _ ?_; clear hK K
            refine wpAny_take (i := 10) (v := ?_) rfl (by kernel_rfl) (by kernel_rfl) (by kernel_rfl) (fun _ _ _ h => h) (Or.inl ⟨by rfl, ?_⟩) ?_
            rotate_left
            · intro w; go_simp; try with_reducible rfl
            refine wpAny_ready (rs := [11]) (by kernel_rfl) (by simp) ?_
            refine AllReady.cons rfl (fun K hK => ?_) ?_
            · go_simp
              refine hK _ _ ?_; clear hK K
              refine wpAny_ready (rs := [12]) (by kernel_rfl) (by simp) ?_
              refine AllReady.cons rfl (fun K hK => ?_) ?_
              · refine step_append_lies _ rfl (.tmp 13) (.tmp 24) 24 rfl (w.heap.size + 6) 36 i36 (.agg #[.int .i64 0, .int .i64 0]) 2 16 under24 hi hz0 hz1 hz2 rfl (by decide) v n (dnC (pre.map (dayF numZ))) rfl (OW.out _ (belowA _ (belowA _ B1.out))) ⟨w1.heap.size + 1, 0, none⟩ 1 1 [.int .i64 nz, .int .i64 ix] rfl rfl (by
                  intro j u hj
                  match j, hj with
                  | 0, hj => simp at hj; subst hj; simp [Addr.add]
                  | 1, hj => simp at hj; subst hj; simp [Addr.add]
                  | (_ + 2), hj => simp at hj) (by intro u hu; simp at hu; rcases hu with rfl | rfl <;> rfl) (by omega) (by unfold maxLen; omega) (by omega) (by have := B1.out.size; simp; omega) _ rfl ?_
                intro g cap w2 hown2 hgrow _ hg2
                refine hK _ _ ?_; clear hK K
                have kO2 := box_grown hO (belowA _ (belowA _ B1.out)) (OW.out _ (belowA _ (belowA _ B1.out))) hgrow
                have cO2 : w2.cell? ⟨w.heap.size, 0, none⟩ = some v := by rw [cell_of_row _ _ _ _ _ _ kO2]; rfl
                have fO2 : w2.frozen? ⟨w.heap.size, 0, none⟩ = false := frozen_of_row _ _ _ _ _ kO2
                have FIN := Lib.hid (DS.done HNL.out hsz6 hO HBEL.out (belowA _ (belowA _ B1.out)) (OW.out _ (belowA _ (belowA _ B1.out))) (d := ⟨nz, ix⟩) hown2 hgrow)
                clear hown2 hgrow kO2
                refine wpAny_ready (rs := [13]) (by kernel_rfl) (by simp) ?_
                refine AllReady.cons rfl (fun K hK => ?_) ?_
                · go_simp
                  refine hK _ _ ?_; clear hK K
                  refine wpAny_done (by kernel_rfl) ?_ _
                  exact ⟨fun k h1 h2 => FIN.out.2 k h1 (by omega), by rw [List.map_append, List.map_cons, List.map_nil, HF.out]; exact FIN.out.1⟩
                exact AllReady.nil
              exact AllReady.nil
            exact AllReady.nil
          exact AllReady.nil
        refine AllReady.cons rfl (fun K hK => ?_) ?_
        · go_simp
          refine (C38.out w1).mono ?_
          rintro e w2 ⟨rfl, rfl⟩
          go_simp
          refine hK _ _ ?_; clear hK K
          refine wpAny_take (i := 10) (v := ?_) rfl (by kernel_rfl) (by kernel_rfl) (by kernel_rfl) (fun _ _ _ h => h) (Or.inl ⟨by rfl, ?_⟩) ?_
          rotate_left
          · intro w; go_simp; try with_reducible rfl
          refine wpAny_ready (rs := [0, 11]) (by kernel_rfl) (by simp) ?_
          refine AllReady.cons rfl (fun K hK => ?_) ?_
          · go_simp
            refine hK _ _ ?_; clear hK K
            refine wpAny_ready (rs := [11]) (by kernel_rfl) (by simp) ?_
            refine AllReady.cons rfl (fun K hK => ?_) ?_
            · go_simp
              refine hK _ _ ?_; clear hK K
              refine wpAny_ready (rs := [12]) (by kernel_rfl) (by simp) ?_
              refine AllReady.cons rfl (fun K hK => ?_) ?_
              · refine step_append_lies _ rfl (.tmp 13) (.tmp 24) 24 rfl (w.heap.size + 6) 36 i36 (.agg #[.int .i64 0, .int .i64 0]) 2 16 under24 hi hz0 hz1 hz2 rfl (by decide) v n (dnC (pre.map (dayF numZ))) rfl (OW.out _ (belowA _ (belowA _ B1.out))) ⟨w1.heap.size + 1, 0, none⟩ 1 1 [.int .i64 nz, .int .i64 ix] rfl rfl (by
                  intro j u hj
                  match j, hj with
                  | 0, hj => simp at hj; subst hj; simp [Addr.add]
                  | 1, hj => simp at hj; subst hj; simp [Addr.add]
                  | (_ + 2), hj => simp at hj) (by intro u hu; simp at hu; rcases hu with rfl | rfl <;> rfl) (by omega) (by unfold maxLen; omega) (by omega) (by have := B1.out.size; simp; omega) _ rfl ?_
                intro g cap w2 hown2 hgrow _ hg2
                refine hK _ _ ?_; clear hK K
                have kO2 := box_grown hO (belowA _ (belowA _ B1.out)) (OW.out _ (belowA _ (belowA _ B1.out))) hgrow
                have cO2 : w2.cell? ⟨w.heap.size, 0, none⟩ = some v := by rw [cell_of_row _ _ _ _ _ _ kO2]; rfl
                have fO2 : w2.frozen? ⟨w.heap.size, 0, none⟩ = false := frozen_of_row _ _ _ _ _ kO2
                have FIN := Lib.hid (DS.done HNL.out hsz6 hO HBEL.out (belowA _ (belowA _ B1.out)) (OW.out _ (belowA _ (belowA _ B1.out))) (d := ⟨nz, ix⟩) hown2 hgrow)
                clear hown2 hgrow kO2
                refine wpAny_ready (rs := [13]) (by kernel_rfl) (by simp) ?_
                refine AllReady.cons rfl (fun K hK => ?_) ?_
                · go_simp
                  refine hK _ _ ?_; clear hK K
                  refine wpAny_done (by kernel_rfl) ?_ _
                  exact ⟨fun k h1 h2 => FIN.out.2 k h1 (by omega), by rw [List.map_append, List.map_cons, List.map_nil, HF.out]; exact FIN.out.1⟩
                exact AllReady.nil
              exact AllReady.nil
            exact AllReady.nil
          refine AllReady.cons rfl (fun K hK => ?_) ?_
          · go_simp
            refine hK _ _ ?_; clear hK K
            refine wpAny_ready (rs := [0]) (by kernel_rfl) (by simp) ?_
            refine AllReady.cons rfl (fun K hK => ?_) ?_
            · go_simp
              refine hK _ _ ?_; clear hK K
              refine wpAny_ready (rs := [12]) (by kernel_rfl) (by simp) ?_
              refine AllReady.cons rfl (fun K hK => ?_) ?_
              · refine step_append_lies _ rfl (.tmp 13) (.tmp 24) 24 rfl (w.heap.size + 6) 36 i36 (.agg #[.int .i64 0, .int .i64 0]) 2 16 under24 hi hz0 hz1 hz2 rfl (by decide) v n (dnC (pre.map (dayF numZ))) rfl (OW.out _ (belowA _ (belowA _ B1.out))) ⟨w1.heap.size + 1, 0, none⟩ 1 1 [.int .i64 nz, .int .i64 ix] rfl rfl (by
                  intro j u hj
                  match j, hj with
                  | 0, hj => simp at hj; subst hj; simp [Addr.add]
                  | 1, hj => simp at hj; subst hj; simp [Addr.add]
                  | (_ + 2), hj => simp at hj) (by intro u hu; simp at hu; rcases hu with rfl | rfl <;> rfl) (by omega) (by unfold maxLen; omega) (by omega) (by have := B1.out.size; simp; omega) _ rfl ?_
                intro g cap w2 hown2 hgrow _ hg2
                refine hK _ _ ?_; clear hK K
                have kO2 := box_grown hO (belowA _ (belowA _ B1.out)) (OW.out _ (belowA _ (belowA _ B1.out))) hgrow
                have cO2 : w2.cell? ⟨w.heap.size, 0, none⟩ = some v := by rw [cell_of_row _ _ _ _ _ _ kO2]; rfl
                have fO2 : w2.frozen? ⟨w.heap.size, 0, none⟩ = false := frozen_of_row _ _ _ _ _ kO2
                have FIN := Lib.hid (DS.done HNL.out hsz6 hO HBEL.out (belowA _ (belowA _ B1.out)) (OW.out _ (belowA _ (belowA _ B1.out))) (d := ⟨nz, ix⟩) hown2 hgrow)
                clear hown2 hgrow kO2
                refine wpAny_ready (rs := [13]) (by kernel_rfl) (by simp) ?_
                refine AllReady.cons rfl (fun K hK => ?_) ?_
                · go_simp
                  refine hK _ _ ?_; clear hK K
                  refine wpAny_done (by kernel_rfl) ?_ _
                  exact ⟨fun k h1 h2 => FIN.out.2 k h1 (by omega), by rw [List.map_append, List.map_cons, List.map_nil, HF.out]; exact FIN.out.1⟩
                exact AllReady.nil
              exact AllReady.nil
            exact AllReady.nil
          exact AllReady.nil
        exact AllReady.nil
      exact AllReady.nil
    exact AllReady.nil
  case done =>
    rintro W ⟨⟨v, hO, hown⟩, hbel⟩ hD hl
    have cO : W.cell? ⟨w.heap.size, 0, none⟩ = some v := by rw [cell_of_row _ _ _ _ _ _ hO]; rfl
    have HOW := Lib.hid (And.intro hown (And.intro hbel hD))
    have hlt := (Array.getElem?_eq_some_iff.1 hO).1
    clear hown hO hbel hD
    gi_wp2
    refine leaves_marks (by simp) [WS.heap.size] W (by simp) (fun D hd => by rw [List.mem_singleton.1 hd]; exact HOW.out.2.2) (fun W' k1 k2 k3 k4 k5 => ⟨_, results_tmp rfl _ _ _, v, rfl, ?_, ?_⟩)
    · have e : ((splitB 44 s).map (dayF numZ)).length = (splitB 44 s).length := List.length_map _
      have ho := HOW.out.1
      rw [e] at ho
      obtain ⟨h1, h2 | ⟨g, cap, cur, e2, a1, a2, a3⟩⟩ := ho
      · exact ⟨h1, .inl h2⟩
      · exact ⟨h1, .inr ⟨g, cap, cur, e2, a1, (k1 g (by rw [List.mem_singleton, hszW]; omega)).trans a2, a3⟩⟩
    · exact HOW.out.2.1.trans ⟨k2, k3, k4, k5, fun k hk => k1 k (by rw [List.mem_singleton, hszW]; omega)⟩
end Go.Proofs.YtcleicjgeflbnaaGreatDoor
