/- rule.numbers: the numbers of a row. Conditions: what a piece's number is is told. rule.long; what the parts INTERVAL, COUNT, UNTIL, BYMONTH, BYMONTHDAY, BYSETPOS, WKST say. Conditions: the tables are laid, the errors of strconv lie in their boxes, the rule lies in a box. -/
import Derived.Test.YtcleicjgeflbnaaGreatDoorV10
import Derived.Test.YtcleicjgeflbnaaGreatDoorQ1
namespace Go.Proofs.YtcleicjgeflbnaaGreatDoor
open Go.RowKit Go.ChangeShapes Go.WideShapes Go.Deep
set_option linter.all false
attribute [local go_sem] Oper.semAt_some

def inC (l : List Int) : List Value := l.flatMap fun d => [.int .i64 d]
theorem inC_append (a b : List Int) : inC (a ++ b) = inC a ++ inC b := by simp [inC]
/-- What lies in memory while a row of numbers is read. -/
structure NS (w : World) (l : List Int) (W : World) : Prop where
  out : ∃ v, W.heap[w.heap.size]? = some (.cells #[v] 23 (0, 0)) ∧ W.ownsRow (w.heap.size + 6) 3 1 v l.length (inC l)
  bel : Below w.heap.size w W
theorem NS.turned {w W W' : World} {l : List Int} (h : NS w l W) (ht : Turned (w.heap.size + 4) (w.heap.size + 1) W W') : NS w l W' := by
  obtain ⟨⟨v, h1, h2⟩, h3⟩ := h
  exact ⟨⟨v, (ht.block _ (Array.getElem?_eq_some_iff.1 h1).1 (by omega) (by omega) (by omega)).trans h1, own_turned h2 ht (by omega) (by omega)⟩,
    h3.trans ⟨ht.os, ht.tape, ht.output, ht.size, fun k hk => ht.block k (by have := h3.size; omega) (by omega) (by omega) (by omega)⟩⟩
theorem own_laterI {w w' : World} {B : Nat} {v : Value} {n : Nat} {e : TypeId} {z : Nat} {xs : List Value} (h : w.ownsRow B e z v n xs) (hb : Below w.heap.size w w') : w'.ownsRow B e z v n xs := by
  obtain ⟨h1, h2 | ⟨g, cap, cur, e, a1, a2, a3⟩⟩ := h
  · exact ⟨h1, .inl h2⟩
  · exact ⟨h1, .inr ⟨g, cap, cur, e, a1, (hb.block g (Array.getElem?_eq_some_iff.1 a2).1).trans a2, a3⟩⟩
theorem info3 : (Tryz.prog.info? 3).map (fun i => (i.zero, i.size, i.bytes)) = some (some (.int .i64 0), 1, 8) := by kernel_rfl
theorem under23 : Tryz.prog.underlying 23 = some (.slice 3) := by kernel_rfl
theorem box_grownI {w Wc w2 W : World} {v : Value} {n : Nat} {xs : List Value} (hO : W.heap[w.heap.size]? = some (.cells #[v] 23 (0, 0))) (hb : Below W.heap.size W Wc) (hown : Wc.ownsRow (w.heap.size + 6) 3 1 v n xs) (hg : Wc.grownBy w2 v.ownBlock) : w2.heap[w.heap.size]? = some (.cells #[v] 23 (0, 0)) := by
  have hlt := (Array.getElem?_eq_some_iff.1 hO).1
  rw [hg.block w.heap.size (by have := hb.size; omega) (fun e => by have := (hown.lt _ e.symm).1; omega), hb.block _ hlt, hO]
theorem NS.done {w W Wc w2 : World} {l : List Int} {v v' : Value} {d : Int} {n : Nat} (hn : n = l.length) (hsz : w.heap.size + 6 ≤ W.heap.size) (hO : W.heap[w.heap.size]? = some (.cells #[v] 23 (0, 0))) (hbel : Below w.heap.size w W)
    (hb : Below W.heap.size W Wc) (hown : Wc.ownsRow (w.heap.size + 6) 3 1 v n (inC l)) (hown2 : w2.ownsRow (w.heap.size + 6) 3 1 v' (n + 1) (inC l ++ [.int .i64 d])) (hg : Wc.grownBy w2 v.ownBlock) :
    NS w (l ++ [d]) (w2.setCell ⟨w.heap.size, 0, none⟩ v') ∧ ∀ k, w.heap.size + 1 ≤ k → k < w.heap.size + 6 → (w2.setCell ⟨w.heap.size, 0, none⟩ v').heap[k]? = W.heap[k]? := by
  have h1 := box_grownI hO hb hown hg
  have hlt := (Array.getElem?_eq_some_iff.1 hO).1
  have hk : ∀ k, k < w.heap.size + 6 → k < W.heap.size → w2.heap[k]? = W.heap[k]? := fun k hk1 hk2 => (hg.block k (by have := hb.size; omega) (fun e => by have := (hown.lt _ e.symm).1; omega)).trans (hb.block k hk2)
  refine ⟨⟨⟨v', ?_, ?_⟩, ?_⟩, fun k h1 h2 => (Below.heap_setCell _ _ _ _ (by simp only; omega)).trans (hk k h2 (by omega))⟩
  · exact heap_setCell_same _ _ _ _ _ _ h1
  · have e : (l ++ [d]).length = n + 1 := by rw [List.length_append, hn]; rfl
    have e2 : inC (l ++ [d]) = inC l ++ [.int .i64 d] := by simp [inC]
    rw [e, e2]
    obtain ⟨hl, h0 | ⟨g, cap, cur, e3, a1, a2, a3⟩⟩ := hown2
    · exact ⟨hl, .inl h0⟩
    · exact ⟨hl, .inr ⟨g, cap, cur, e3, a1, (Below.heap_setCell _ _ _ _ (by simp only; omega)).trans a2, a3⟩⟩
  · refine (show Below w.heap.size w w2 from ?_).setCell (Nat.le_refl _) _
    refine ⟨hg.os.trans (hb.os.trans hbel.os), hg.tape.trans (hb.tape.trans hbel.tape), hg.output.trans (hb.output.trans hbel.output), Nat.le_trans hbel.size (Nat.le_trans hb.size hg.size), fun k hk1 => (hk k (by omega) (by omega)).trans (hbel.block k hk1)⟩

set_option maxRecDepth 100000 in
set_option maxHeartbeats 8000000 in
theorem numbers_in (s : ByteArray) (hs : s.size ≤ 1000000) (w : World) (numZ : ByteArray → Int)
    (hN : ∀ x W, x.size ≤ 1000000 → Below w.heap.size w W → Calls Tryz.prog 40 #[.string x] W fun e w' => e = .returned (.int .i64 (numZ x)) ∧ Below W.heap.size W w') :
    CallsIn Fence.wide 5 Tryz.prog 45 #[.string s] w fun e w' => ∃ v, e = .returned v ∧ w'.ownsRow (w.heap.size + 6) 3 1 v (splitB 44 s).length (inC ((splitB 44 s).map numZ)) ∧ Below w.heap.size w w' := by
  have HN := Lib.hid hN
  have HLE := Lib.hid (splitB_le 44 s)
  clear hN
  refine callsIn_of_wp_marks Tryz.func45 rfl trivial ?_ rfl
  simp only [Tryz.ntmps45, List.size_toArray, List.length_cons, List.length_nil, Nat.reduceAdd, Nat.reduceSub, Array.replicate_succ, Array.replicate_zero, List.push_toArray, List.append_toArray, List.nil_append, List.cons_append]
  gi_wp2
  refine ⟨trivial, ?_⟩
  refine (callsIn_wide.2 (SplitSeq_any 44 s _)).mono ?_
  rintro e w1 ⟨rfl, rfl⟩
  obtain ⟨WS, hWS⟩ : ∃ WS, WS = splitW 44 s (w.alloc (.cells #[.slice none 0 0] 23)) := ⟨_, rfl⟩
  rw [← hWS]
  have hszW : WS.heap.size = w.heap.size + 4 := by rw [hWS]; simp [splitW]
  have go : WS.heap[w.heap.size]? = some (.cells #[.slice none 0 0] 23 (0, 0)) := by
    rw [hWS]; unfold splitW
    rw [Below.heap_alloc _ _ _ (by simp only [World.size_alloc]; omega), Below.heap_alloc _ _ _ (by simp only [World.size_alloc]; omega), Below.heap_alloc _ _ _ (by simp)]
    exact heap_alloc_new _ _
  have g0 : WS.heap[w.heap.size + 1]? = some (.cells #[.string s] 9 (0, 0)) := by
    rw [hWS]; unfold splitW
    rw [Below.heap_alloc _ _ _ (by simp only [World.size_alloc]; omega), Below.heap_alloc _ _ _ (by simp)]
    have := heap_alloc_new (w.alloc (.cells #[.slice none 0 0] 23)) (.cells #[.string s] 9)
    rwa [World.size_alloc] at this
  have g1 : WS.heap[w.heap.size + 1 + 1]? = some (.cells #[.string ⟨#[44]⟩] 9 (0, 0)) := by
    rw [hWS]; unfold splitW
    rw [Below.heap_alloc _ _ _ (by simp only [World.size_alloc]; omega)]
    have := heap_alloc_new ((w.alloc (.cells #[.slice none 0 0] 23)).alloc (.cells #[.string s] 9)) (.cells #[.string ⟨#[44]⟩] 9)
    rwa [World.size_alloc, World.size_alloc] at this
  have g2 : WS.heap[w.heap.size + 1 + 2]? = some (.cells #[.int .i64 0] 3 (0, 0)) := by
    rw [hWS]; unfold splitW
    have := heap_alloc_new (((w.alloc (.cells #[.slice none 0 0] 23)).alloc (.cells #[.string s] 9)).alloc (.cells #[.string ⟨#[44]⟩] 9)) (.cells #[.int .i64 0] 3)
    rwa [World.size_alloc, World.size_alloc, World.size_alloc] at this
  have hbW : Below w.heap.size w WS := by rw [hWS]; exact belowA _ (belowA _ (belowA _ (belowA _ (Below.refl _ _))))
  have HG := Lib.hid (And.intro go (And.intro g0 (And.intro g1 (And.intro g2 hbW))))
  clear go g0 g1 g2 hbW hWS
  gi_wp2
  refine range_box (n := 5) (w.heap.size + 1) rfl (enters_of Tryz.func71 (by kernel_rfl) rfl) (encs := fun x : ByteArray => #[.string x]) (fun _ => rfl) (splitB 44 s)
    (fun pre W => NS w (pre.map numZ) W) (by omega) ?turned ?start (fun x => { tmps := #[.string s, undef, .slice none 0 0, .pointer (some ⟨w.heap.size, 0, none⟩), .string x, .string s, .func (.func 71) #[] #[.pointer (some ⟨w.heap.size + 1 + 1, 0, none⟩), .pointer (some ⟨w.heap.size + 1, 0, none⟩), .pointer (some ⟨w.heap.size + 1 + 2, 0, none⟩)], .string x, undef, undef, undef, undef, undef, undef], defers := [] }) ?assign ?body ?seq (by omega) ?done
  case turned =>
    intro pre W W' ht h
    exact h.turned (by rw [← hszW]; exact ht)
  case start => exact ⟨⟨_, HG.out.1, World.ownsRow_nil _ _ _ _⟩, HG.out.2.2.2.2⟩
  case assign =>
    intro l x W K hK
    gi_wp2
    exact hK
  case seq =>
    intro l J W1 h1 hJc hY hj
    exact split_in 44 4 l (w.heap.size + 1) s J W1 hJc hY ((h1 _ (by omega)).trans HG.out.2.1) ((h1 _ (by omega)).trans HG.out.2.2.1) ((h1 _ (by omega)).trans HG.out.2.2.2.1) hs hj
  case body =>
    intro l pre x W hsz hpx h
    have hxm : x ∈ splitB 44 s := by obtain ⟨post, e⟩ := hpx; rw [e]; simp
    have hxs : x.size ≤ 1000000 := Nat.le_trans (HLE.out.2 x hxm) hs
    have hpl : pre.length ≤ 1000000 := by
      obtain ⟨post, e⟩ := hpx
      have := HLE.out.1
      rw [e] at this
      simp only [List.length_append, List.length_cons] at this
      omega
    obtain ⟨⟨v, hO, hown⟩, hbel⟩ := h
    have hmix : Tryz.prog.follows .mixedOrders = true := by kernel_rfl
    obtain ⟨i3, hi, hz0, hz1, hz2⟩ := info_parts info3
    obtain ⟨n, hn⟩ : ∃ n, n = (pre.map numZ).length := ⟨_, rfl⟩
    rw [← hn] at hown
    have hn6 : n ≤ 1000000 := by rw [hn, List.length_map]; exact hpl
    obtain ⟨nz, hnz⟩ : ∃ nz, nz = numZ x := ⟨_, rfl⟩
    have cO : W.cell? ⟨w.heap.size, 0, none⟩ = some v := by rw [cell_of_row _ _ _ _ _ _ hO]; rfl
    have hlt := (Array.getElem?_eq_some_iff.1 hO).1
    have hsz6 : w.heap.size + 6 ≤ W.heap.size := by omega
    have B0 := Lib.hid (Below.refl W.heap.size W)
    have C40 := Lib.hid (fun W1 (hb : Below W.heap.size W W1) => HN.out x W1 hxs (hbel.trans (hb.mono hbel.size)))
    rw [← hnz] at C40
    have OW := Lib.hid (fun W1 (hb : Below W.heap.size W W1) => own_laterI hown hb)
    have HBEL := Lib.hid hbel
    have HNL := Lib.hid hn
    have HF := Lib.hid hnz.symm
    clear hpx hxm hown hbel hn hnz hpl
    gi_wp2
    refine region_in l _ 4 hmix (by kernel_rfl) (by rintro ⟨_, _, h⟩; exact h) ?_
    simp only [List.size_toArray, List.length_cons, List.length_nil, Nat.reduceAdd, Array.replicate_succ, Array.replicate_zero, List.push_toArray, List.nil_append, List.cons_append]
    refine wpAny_take (i := 1) (v := ?_) rfl (by kernel_rfl) (by kernel_rfl) (by kernel_rfl) (fun _ _ _ h => h) (Or.inl ⟨by kernel_rfl, ?_⟩) ?_
    rotate_left
    · intro w; go_simp; try with_reducible rfl
    refine wpAny_ready (rs := [0, 2]) (by kernel_rfl) (by simp) ?_
    refine AllReady.cons rfl (fun K hK => ?_) ?_
    · go_simp
      refine hK _ _ ?_; clear hK K
      refine wpAny_ready (rs := [2]) (by kernel_rfl) (by simp) ?_
      refine AllReady.cons rfl (fun K hK => ?_) ?_
      · go_simp
        refine (C40.out _ (by first | exact B0.out | exact B0.out.drew)).mono ?_
        rintro e w1 ⟨rfl, hb1⟩
        have B1 := Lib.hid (show Below W.heap.size W w1 from ⟨hb1.os, hb1.tape, hb1.output, hb1.size, hb1.block⟩)
        have cO1 : w1.cell? ⟨w.heap.size, 0, none⟩ = some v := (B1.out.cell (p := ⟨w.heap.size, 0, none⟩) hlt).trans cO
        have hl1 : w.heap.size < w1.heap.size := Nat.lt_of_lt_of_le hlt B1.out.size
        clear hb1
        go_simp
        refine hK _ _ ?_; clear hK K
        refine wpAny_ready (rs := [3]) (by kernel_rfl) (by simp) ?_
        refine AllReady.cons rfl (fun K hK => ?_) ?_
        · go_simp
          refine hK _ _ ?_; clear hK K
          refine wpAny_ready (rs := [4]) (by kernel_rfl) (by simp) ?_
          refine AllReady.cons rfl (fun K hK => ?_) ?_
          · refine step_append_lies _ rfl (.tmp 8) (.tmp 11) 23 rfl (w.heap.size + 6) 3 i3 (.int .i64 0) 1 8 under23 hi hz0 hz1 hz2 rfl (by decide) v n (inC (pre.map numZ)) rfl (OW.out _ (belowA _ B1.out)) ⟨w1.heap.size, 0, none⟩ 1 1 [.int .i64 nz] rfl rfl (by
                intro j u hj
                match j, hj with
                | 0, hj => simp at hj; subst hj; simp [Addr.add]
                | (_ + 1), hj => simp at hj) (by intro u hu; simp at hu; subst hu; rfl) (by omega) (by unfold maxLen; omega) (by omega) (by have := B1.out.size; simp; omega) _ rfl ?_
            intro g cap w2 hown2 hgrow _ hg2
            refine hK _ _ ?_; clear hK K
            have kO2 := box_grownI hO (belowA _ B1.out) (OW.out _ (belowA _ B1.out)) hgrow
            have cO2 : w2.cell? ⟨w.heap.size, 0, none⟩ = some v := by rw [cell_of_row _ _ _ _ _ _ kO2]; rfl
            have fO2 : w2.frozen? ⟨w.heap.size, 0, none⟩ = false := frozen_of_row _ _ _ _ _ kO2
            have FIN := Lib.hid (NS.done HNL.out hsz6 hO HBEL.out (belowA _ B1.out) (OW.out _ (belowA _ B1.out)) (d := nz) hown2 hgrow)
            clear hown2 hgrow kO2
            refine wpAny_ready (rs := [5]) (by kernel_rfl) (by simp) ?_
            refine AllReady.cons rfl (fun K hK => ?_) ?_
            · go_simp
              refine hK _ _ ?_; clear hK K
              refine wpAny_done (by kernel_rfl) ?_ _
              exact ⟨fun k h1 h2 => FIN.out.2 k h1 (by omega), by rw [List.map_append, List.map_cons, List.map_nil, HF.out]; exact FIN.out.1⟩
            exact AllReady.nil
          exact AllReady.nil
        exact AllReady.nil
      exact AllReady.nil
    refine AllReady.cons rfl (fun K hK => ?_) ?_
    · go_simp
      refine (C40.out _ (by first | exact B0.out | exact B0.out.drew)).mono ?_
      rintro e w1 ⟨rfl, hb1⟩
      have B1 := Lib.hid (show Below W.heap.size W w1 from ⟨hb1.os, hb1.tape, hb1.output, hb1.size, hb1.block⟩)
      have cO1 : w1.cell? ⟨w.heap.size, 0, none⟩ = some v := (B1.out.cell (p := ⟨w.heap.size, 0, none⟩) hlt).trans cO
      have hl1 : w.heap.size < w1.heap.size := Nat.lt_of_lt_of_le hlt B1.out.size
      clear hb1
      go_simp
      refine hK _ _ ?_; clear hK K
      refine wpAny_ready (rs := [0, 3]) (by kernel_rfl) (by simp) ?_
      refine AllReady.cons rfl (fun K hK => ?_) ?_
      · go_simp
        refine hK _ _ ?_; clear hK K
        refine wpAny_ready (rs := [3]) (by kernel_rfl) (by simp) ?_
        refine AllReady.cons rfl (fun K hK => ?_) ?_
        · go_simp
          refine hK _ _ ?_; clear hK K
          refine wpAny_ready (rs := [4]) (by kernel_rfl) (by simp) ?_
          refine AllReady.cons rfl (fun K hK => ?_) ?_
          · refine step_append_lies _ rfl (.tmp 8) (.tmp 11) 23 rfl (w.heap.size + 6) 3 i3 (.int .i64 0) 1 8 under23 hi hz0 hz1 hz2 rfl (by decide) v n (inC (pre.map numZ)) rfl (OW.out _ (belowA _ B1.out)) ⟨w1.heap.size, 0, none⟩ 1 1 [.int .i64 nz] rfl rfl (by
                intro j u hj
                match j, hj with
                | 0, hj => simp at hj; subst hj; simp [Addr.add]
                | (_ + 1), hj => simp at hj) (by intro u hu; simp at hu; subst hu; rfl) (by omega) (by unfold maxLen; omega) (by omega) (by have := B1.out.size; simp; omega) _ rfl ?_
            intro g cap w2 hown2 hgrow _ hg2
            refine hK _ _ ?_; clear hK K
            have kO2 := box_grownI hO (belowA _ B1.out) (OW.out _ (belowA _ B1.out)) hgrow
            have cO2 : w2.cell? ⟨w.heap.size, 0, none⟩ = some v := by rw [cell_of_row _ _ _ _ _ _ kO2]; rfl
            have fO2 : w2.frozen? ⟨w.heap.size, 0, none⟩ = false := frozen_of_row _ _ _ _ _ kO2
            have FIN := Lib.hid (NS.done HNL.out hsz6 hO HBEL.out (belowA _ B1.out) (OW.out _ (belowA _ B1.out)) (d := nz) hown2 hgrow)
            clear hown2 hgrow kO2
            refine wpAny_ready (rs := [5]) (by kernel_rfl) (by simp) ?_
            refine AllReady.cons rfl (fun K hK => ?_) ?_
            · go_simp
              refine hK _ _ ?_; clear hK K
              refine wpAny_done (by kernel_rfl) ?_ _
              exact ⟨fun k h1 h2 => FIN.out.2 k h1 (by omega), by rw [List.map_append, List.map_cons, List.map_nil, HF.out]; exact FIN.out.1⟩
            exact AllReady.nil
          exact AllReady.nil
        exact AllReady.nil
      refine AllReady.cons rfl (fun K hK => ?_) ?_
      · go_simp
        refine hK _ _ ?_; clear hK K
        refine wpAny_ready (rs := [0]) (by kernel_rfl) (by simp) ?_
        refine AllReady.cons rfl (fun K hK => ?_) ?_
        · go_simp
          refine hK _ _ ?_; clear hK K
          refine wpAny_ready (rs := [4]) (by kernel_rfl) (by simp) ?_
          refine AllReady.cons rfl (fun K hK => ?_) ?_
          · refine step_append_lies _ rfl (.tmp 8) (.tmp 11) 23 rfl (w.heap.size + 6) 3 i3 (.int .i64 0) 1 8 under23 hi hz0 hz1 hz2 rfl (by decide) v n (inC (pre.map numZ)) rfl (OW.out _ (belowA _ B1.out)) ⟨w1.heap.size, 0, none⟩ 1 1 [.int .i64 nz] rfl rfl (by
                intro j u hj
                match j, hj with
                | 0, hj => simp at hj; subst hj; simp [Addr.add]
                | (_ + 1), hj => simp at hj) (by intro u hu; simp at hu; subst hu; rfl) (by omega) (by unfold maxLen; omega) (by omega) (by have := B1.out.size; simp; omega) _ rfl ?_
            intro g cap w2 hown2 hgrow _ hg2
            refine hK _ _ ?_; clear hK K
            have kO2 := box_grownI hO (belowA _ B1.out) (OW.out _ (belowA _ B1.out)) hgrow
            have cO2 : w2.cell? ⟨w.heap.size, 0, none⟩ = some v := by rw [cell_of_row _ _ _ _ _ _ kO2]; rfl
            have fO2 : w2.frozen? ⟨w.heap.size, 0, none⟩ = false := frozen_of_row _ _ _ _ _ kO2
            have FIN := Lib.hid (NS.done HNL.out hsz6 hO HBEL.out (belowA _ B1.out) (OW.out _ (belowA _ B1.out)) (d := nz) hown2 hgrow)
            clear hown2 hgrow kO2
            refine wpAny_ready (rs := [5]) (by kernel_rfl) (by simp) ?_
            refine AllReady.cons rfl (fun K hK => ?_) ?_
            · go_simp
              refine hK _ _ ?_; clear hK K
              refine wpAny_done (by kernel_rfl) ?_ _
              exact ⟨fun k h1 h2 => FIN.out.2 k h1 (by omega), by rw [List.map_append, List.map_cons, List.map_nil, HF.out]; exact FIN.out.1⟩
            exact AllReady.nil
          exact AllReady.nil
        exact AllReady.nil
      exact AllReady.nil
    exact AllReady.nil
  case done =>
    rintro W ⟨⟨v, hO, hown⟩, hbel⟩ hD hl
    have cO : W.cell? ⟨w.heap.size, 0, none⟩ = some v := by rw [cell_of_row _ _ _ _ _ _ hO]; rfl
    have HOW := Lib.hid (And.intro hown (And.intro hbel hD))
    have hlt := (Array.getElem?_eq_some_iff.1 hO).1
    clear hown hO hbel hD
    gi_wp2
    refine leaves_marks (by simp) [WS.heap.size] W (by simp) (fun D hd => by rw [List.mem_singleton.1 hd]; exact HOW.out.2.2) (fun W' k1 k2 k3 k4 k5 => ⟨_, results_tmp rfl _ _ _, v, rfl, ?_, ?_⟩)
    · have e : ((splitB 44 s).map numZ).length = (splitB 44 s).length := List.length_map _
      have ho := HOW.out.1
      rw [e] at ho
      obtain ⟨h1, h2 | ⟨g, cap, cur, e2, a1, a2, a3⟩⟩ := ho
      · exact ⟨h1, .inl h2⟩
      · exact ⟨h1, .inr ⟨g, cap, cur, e2, a1, (k1 g (by rw [List.mem_singleton, hszW]; omega)).trans a2, a3⟩⟩
    · exact HOW.out.2.1.trans ⟨k2, k3, k4, k5, fun k hk => k1 k (by rw [List.mem_singleton, hszW]; omega)⟩
end Go.Proofs.YtcleicjgeflbnaaGreatDoor
namespace Go.Proofs.YtcleicjgeflbnaaGreatDoor
open Go.RowKit Go.ChangeShapes Go.WideShapes Go.Deep
set_option linter.all false

set_option maxRecDepth 100000 in
set_option maxHeartbeats 4000000 in
theorem long_any (s : ByteArray) (w : World) (hs : s.size ≤ 1000000) : Calls Tryz.prog 43 #[.string s] w fun e w' => e = .returned (.int .i64 (longZ s)) ∧ Below w.heap.size w w' := by
  by_cases h13 : s.size = 13
  · obtain ⟨n, b, hr⟩ : ∃ n b, rsF (longS s) = (n, b) := ⟨_, _, rfl⟩
    have hz : longZ s = if b = true then n else -2 := by unfold longZ; rw [if_pos h13, hr]
    rw [hz]
    have RS := Lib.hid (fun W => readStamp_any (longS s) W)
    rw [hr] at RS
    have e1 : longS s = s.extract 0 4 ++ ⟨#[45]⟩ ++ s.extract 4 6 ++ ⟨#[45]⟩ ++ s.extract 6 11 ++ ⟨#[58]⟩ ++ s.extract 11 13 := by unfold longS; rw [h13]
    rw [e1] at RS
    clear hr hz e1 hs
    cases b with
    | true =>
      go_enter Tryz.func43, Tryz.ntmps43
      go_wp2_with fail
      go_region_with (go_at_call 70; ((with_reducible refine (RS.out _).mono ?_); rintro e w1 ⟨rfl, hb⟩
                                      have HB := Lib.hid hb
                                      clear hb))
      all_goals
        go_wp2_with fail
        go_ret
        exact ⟨rfl, ⟨HB.out.os, HB.out.tape, HB.out.output, HB.out.size, HB.out.block⟩⟩
    | false =>
      go_enter Tryz.func43, Tryz.ntmps43
      go_wp2_with fail
      go_region_with (go_at_call 70; ((with_reducible refine (RS.out _).mono ?_); rintro e w1 ⟨rfl, hb⟩
                                      have HB := Lib.hid hb
                                      clear hb))
      all_goals
        go_wp2_with fail
        go_ret
        exact ⟨rfl, ⟨HB.out.os, HB.out.tape, HB.out.output, HB.out.size, HB.out.block⟩⟩
  · have hz : longZ s = -2 := by unfold longZ; rw [if_neg h13]
    have h' : (s.size == 13) = false := by simp [h13]
    rw [hz]
    clear hz hs
    go_enter Tryz.func43, Tryz.ntmps43
    go_wp2
    go_ret
    exact ⟨rfl, Below.refl _ _⟩

set_option maxRecDepth 100000 in
set_option maxHeartbeats 4000000 in
theorem takeInterval (s : ByteArray) (B R : Nat) (cs : Array Value) (w : World) (hs : s.size ≤ 1000000) (hE : Errs w) (hB : w.cell? ⟨B, 0, none⟩ = some (.pointer (some ⟨R, 0, none⟩))) (hR : w.heap[R]? = some (.cells cs 26 (0, 0))) (h9 : cs.size = 9) :
    Calls Tryz.prog 39 #[.string s, .pointer (some ⟨B, 0, none⟩)] w fun e w' => e = .returned (.tuple #[]) ∧ Sets R (cs.setIfInBounds 1 (.int .i64 (numZ s))) w w' := by
  have hlt : R < w.heap.size := (Array.getElem?_eq_some_iff.1 hR).1
  have hBl : B < w.heap.size := World.block_lt_of_cell? w ⟨B, 0, none⟩ hB
  have HE := Lib.hid hE
  have HD := Lib.hid (fun (W : World) (hb : Below w.heap.size w W) => number_any s W hs (HE.out.later hb))
  clear hE
  obtain ⟨z, hz⟩ : ∃ z, z = numZ s := ⟨_, rfl⟩
  rw [← hz] at HD ⊢
  have hc0 : ∃ v, w.cell? ⟨R, 1, none⟩ = some v := by
    rw [cell_of_row _ _ _ _ _ _ hR]
    exact ⟨cs[1]'(by omega), Array.getElem?_eq_getElem _⟩
  obtain ⟨v0, hc0⟩ := hc0
  have hf0 : w.frozen? ⟨R, 1, none⟩ = false := frozen_of_row _ _ _ _ _ hR
  have HB0 := Lib.hid (Below.refl w.heap.size w)
  have HC0 := Lib.hid (And.intro hc0 (And.intro hf0 hB))
  have HR := Lib.hid hR
  clear hz hR
  go_enter Tryz.func39, Tryz.ntmps39
  go_wp2_with fail
  go_region_with (go_at_call 40; ((with_reducible refine (HD.out _ ?_).mono ?_); (first | exact HB0.out | exact HB0.out.drew); rintro e w2 ⟨rfl, hb⟩
                                  have B1 := Lib.hid (show Below w.heap.size w w2 from ⟨hb.os, hb.tape, hb.output, hb.size, hb.block⟩)
                                  have hc2 : w2.cell? ⟨R, 1, none⟩ = some v0 := (B1.out.cell (p := ⟨R, 1, none⟩) hlt).trans HC0.out.1
                                  have hf2 : w2.frozen? ⟨R, 1, none⟩ = false := frozen_of_row _ _ _ _ _ ((B1.out.block R hlt).trans HR.out)
                                  have hB2 : w2.cell? ⟨B, 0, none⟩ = some (.pointer (some ⟨R, 0, none⟩)) := (B1.out.cell (p := ⟨B, 0, none⟩) hBl).trans HC0.out.2.2
                                  clear hb))
  all_goals
    go_wp2_with fail
    go_end0
    exact ⟨rfl, Sets.store B1.out HR.out 1 _⟩

set_option maxRecDepth 100000 in
set_option maxHeartbeats 4000000 in
theorem takeCount (s : ByteArray) (B R : Nat) (cs : Array Value) (w : World) (hs : s.size ≤ 1000000) (hE : Errs w) (hB : w.cell? ⟨B, 0, none⟩ = some (.pointer (some ⟨R, 0, none⟩))) (hR : w.heap[R]? = some (.cells cs 26 (0, 0))) (h9 : cs.size = 9) :
    Calls Tryz.prog 41 #[.string s, .pointer (some ⟨B, 0, none⟩)] w fun e w' => e = .returned (.tuple #[]) ∧ Sets R (cs.setIfInBounds 2 (.int .i64 (numZ s))) w w' := by
  have hlt : R < w.heap.size := (Array.getElem?_eq_some_iff.1 hR).1
  have hBl : B < w.heap.size := World.block_lt_of_cell? w ⟨B, 0, none⟩ hB
  have HE := Lib.hid hE
  have HD := Lib.hid (fun (W : World) (hb : Below w.heap.size w W) => number_any s W hs (HE.out.later hb))
  clear hE
  obtain ⟨z, hz⟩ : ∃ z, z = numZ s := ⟨_, rfl⟩
  rw [← hz] at HD ⊢
  have hc0 : ∃ v, w.cell? ⟨R, 2, none⟩ = some v := by
    rw [cell_of_row _ _ _ _ _ _ hR]
    exact ⟨cs[2]'(by omega), Array.getElem?_eq_getElem _⟩
  obtain ⟨v0, hc0⟩ := hc0
  have hf0 : w.frozen? ⟨R, 2, none⟩ = false := frozen_of_row _ _ _ _ _ hR
  have HB0 := Lib.hid (Below.refl w.heap.size w)
  have HC0 := Lib.hid (And.intro hc0 (And.intro hf0 hB))
  have HR := Lib.hid hR
  clear hz hR
  go_enter Tryz.func41, Tryz.ntmps41
  go_wp2_with fail
  go_region_with (go_at_call 40; ((with_reducible refine (HD.out _ ?_).mono ?_); (first | exact HB0.out | exact HB0.out.drew); rintro e w2 ⟨rfl, hb⟩
                                  have B1 := Lib.hid (show Below w.heap.size w w2 from ⟨hb.os, hb.tape, hb.output, hb.size, hb.block⟩)
                                  have hc2 : w2.cell? ⟨R, 2, none⟩ = some v0 := (B1.out.cell (p := ⟨R, 2, none⟩) hlt).trans HC0.out.1
                                  have hf2 : w2.frozen? ⟨R, 2, none⟩ = false := frozen_of_row _ _ _ _ _ ((B1.out.block R hlt).trans HR.out)
                                  have hB2 : w2.cell? ⟨B, 0, none⟩ = some (.pointer (some ⟨R, 0, none⟩)) := (B1.out.cell (p := ⟨B, 0, none⟩) hBl).trans HC0.out.2.2
                                  clear hb))
  all_goals
    go_wp2_with fail
    go_end0
    exact ⟨rfl, Sets.store B1.out HR.out 2 _⟩

set_option maxRecDepth 100000 in
set_option maxHeartbeats 4000000 in
theorem takeUntil (s : ByteArray) (B R : Nat) (cs : Array Value) (w : World) (hs : s.size ≤ 1000000) (hB : w.cell? ⟨B, 0, none⟩ = some (.pointer (some ⟨R, 0, none⟩))) (hR : w.heap[R]? = some (.cells cs 26 (0, 0))) (h9 : cs.size = 9) :
    Calls Tryz.prog 42 #[.string s, .pointer (some ⟨B, 0, none⟩)] w fun e w' => e = .returned (.tuple #[]) ∧ Sets R (cs.setIfInBounds 3 (.int .i64 (longZ s))) w w' := by
  have hlt : R < w.heap.size := (Array.getElem?_eq_some_iff.1 hR).1
  have hBl : B < w.heap.size := World.block_lt_of_cell? w ⟨B, 0, none⟩ hB
  have HD := Lib.hid (fun (W : World) (hb : Below w.heap.size w W) => long_any s W hs)
  obtain ⟨z, hz⟩ : ∃ z, z = longZ s := ⟨_, rfl⟩
  rw [← hz] at HD ⊢
  have hc0 : ∃ v, w.cell? ⟨R, 3, none⟩ = some v := by
    rw [cell_of_row _ _ _ _ _ _ hR]
    exact ⟨cs[3]'(by omega), Array.getElem?_eq_getElem _⟩
  obtain ⟨v0, hc0⟩ := hc0
  have hf0 : w.frozen? ⟨R, 3, none⟩ = false := frozen_of_row _ _ _ _ _ hR
  have HB0 := Lib.hid (Below.refl w.heap.size w)
  have HC0 := Lib.hid (And.intro hc0 (And.intro hf0 hB))
  have HR := Lib.hid hR
  clear hz hR
  go_enter Tryz.func42, Tryz.ntmps42
  go_wp2_with fail
  go_region_with (go_at_call 43; ((with_reducible refine (HD.out _ ?_).mono ?_); (first | exact HB0.out | exact HB0.out.drew); rintro e w2 ⟨rfl, hb⟩
                                  have B1 := Lib.hid (show Below w.heap.size w w2 from ⟨hb.os, hb.tape, hb.output, hb.size, hb.block⟩)
                                  have hc2 : w2.cell? ⟨R, 3, none⟩ = some v0 := (B1.out.cell (p := ⟨R, 3, none⟩) hlt).trans HC0.out.1
                                  have hf2 : w2.frozen? ⟨R, 3, none⟩ = false := frozen_of_row _ _ _ _ _ ((B1.out.block R hlt).trans HR.out)
                                  have hB2 : w2.cell? ⟨B, 0, none⟩ = some (.pointer (some ⟨R, 0, none⟩)) := (B1.out.cell (p := ⟨B, 0, none⟩) hBl).trans HC0.out.2.2
                                  clear hb))
  all_goals
    go_wp2_with fail
    go_end0
    exact ⟨rfl, Sets.store B1.out HR.out 3 _⟩

set_option maxRecDepth 100000 in
set_option maxHeartbeats 4000000 in
theorem takeMonth (s : ByteArray) (B R : Nat) (cs : Array Value) (w : World) (hs : s.size ≤ 1000000) (hE : Errs w) (hB : w.cell? ⟨B, 0, none⟩ = some (.pointer (some ⟨R, 0, none⟩))) (hR : w.heap[R]? = some (.cells cs 26 (0, 0))) (h9 : cs.size = 9) :
    Calls Tryz.prog 44 #[.string s, .pointer (some ⟨B, 0, none⟩)] w fun e w' => ∃ v, e = .returned (.tuple #[]) ∧ Sets R (cs.setIfInBounds 4 v) w w' ∧ w'.ownsRow (w.heap.size + 6) 3 1 v (splitB 44 s).length (inC ((splitB 44 s).map numZ)) := by
  have hlt : R < w.heap.size := (Array.getElem?_eq_some_iff.1 hR).1
  have hBl : B < w.heap.size := World.block_lt_of_cell? w ⟨B, 0, none⟩ hB
  have HE := Lib.hid hE
  have HR := Lib.hid hR
  have HD := Lib.hid (fun (W : World) (hsz : W.heap.size = w.heap.size) (hb : Below w.heap.size w W) => callsIn_wide.1 (numbers_in s hs W numZ (fun x W1 hx hb1 => number_any x W1 hx (HE.out.later (hb.trans (hb1.mono hb.size))))))
  have hc6 : ∃ v, w.cell? ⟨R, 4, none⟩ = some v := by
    rw [cell_of_row _ _ _ _ _ _ hR]
    exact ⟨cs[4]'(by omega), Array.getElem?_eq_getElem _⟩
  obtain ⟨v0, hc0⟩ := hc6
  have hf0 : w.frozen? ⟨R, 4, none⟩ = false := frozen_of_row _ _ _ _ _ hR
  have HB0 := Lib.hid (Below.refl w.heap.size w)
  have HC0 := Lib.hid (And.intro hc0 (And.intro hf0 hB))
  clear hE hR
  go_enter Tryz.func44, Tryz.ntmps44
  go_wp2_with fail
  go_region_with (go_at_call 45; ((with_reducible refine (HD.out _ ?_ ?_).mono ?_); (rfl); (first | exact HB0.out | exact HB0.out.drew); rintro e w2 ⟨v, rfl, hown, hb⟩
                                  obtain ⟨vo, vn, vc, rfl⟩ := own_slice hown
                                  have B1 := Lib.hid (show Below w.heap.size w w2 from ⟨hb.os, hb.tape, hb.output, hb.size, hb.block⟩)
                                  have OW := Lib.hid hown
                                  have hc2 : w2.cell? ⟨R, 4, none⟩ = some v0 := (B1.out.cell (p := ⟨R, 4, none⟩) hlt).trans HC0.out.1
                                  have hf2 : w2.frozen? ⟨R, 4, none⟩ = false := frozen_of_row _ _ _ _ _ ((B1.out.block R hlt).trans HR.out)
                                  have hB2 : w2.cell? ⟨B, 0, none⟩ = some (.pointer (some ⟨R, 0, none⟩)) := (B1.out.cell (p := ⟨B, 0, none⟩) hBl).trans HC0.out.2.2
                                  clear hown hb))
  all_goals
    go_wp2_with fail
    go_end0
    refine ⟨_, rfl, Sets.store B1.out HR.out 4 _, ?_⟩
    obtain ⟨h1, h2 | ⟨g, cap, cur, e2, a1, a2, a3⟩⟩ := OW.out
    · exact ⟨h1, .inl h2⟩
    · exact ⟨h1, .inr ⟨g, cap, cur, e2, a1, (Below.heap_setCell _ _ _ _ (by
        have a1' : w.heap.size + 6 ≤ g := a1
        simp only; omega)).trans a2, a3⟩⟩

set_option maxRecDepth 100000 in
set_option maxHeartbeats 4000000 in
theorem takeMonthDay (s : ByteArray) (B R : Nat) (cs : Array Value) (w : World) (hs : s.size ≤ 1000000) (hE : Errs w) (hB : w.cell? ⟨B, 0, none⟩ = some (.pointer (some ⟨R, 0, none⟩))) (hR : w.heap[R]? = some (.cells cs 26 (0, 0))) (h9 : cs.size = 9) :
    Calls Tryz.prog 46 #[.string s, .pointer (some ⟨B, 0, none⟩)] w fun e w' => ∃ v, e = .returned (.tuple #[]) ∧ Sets R (cs.setIfInBounds 5 v) w w' ∧ w'.ownsRow (w.heap.size + 6) 3 1 v (splitB 44 s).length (inC ((splitB 44 s).map numZ)) := by
  have hlt : R < w.heap.size := (Array.getElem?_eq_some_iff.1 hR).1
  have hBl : B < w.heap.size := World.block_lt_of_cell? w ⟨B, 0, none⟩ hB
  have HE := Lib.hid hE
  have HR := Lib.hid hR
  have HD := Lib.hid (fun (W : World) (hsz : W.heap.size = w.heap.size) (hb : Below w.heap.size w W) => callsIn_wide.1 (numbers_in s hs W numZ (fun x W1 hx hb1 => number_any x W1 hx (HE.out.later (hb.trans (hb1.mono hb.size))))))
  have hc6 : ∃ v, w.cell? ⟨R, 5, none⟩ = some v := by
    rw [cell_of_row _ _ _ _ _ _ hR]
    exact ⟨cs[5]'(by omega), Array.getElem?_eq_getElem _⟩
  obtain ⟨v0, hc0⟩ := hc6
  have hf0 : w.frozen? ⟨R, 5, none⟩ = false := frozen_of_row _ _ _ _ _ hR
  have HB0 := Lib.hid (Below.refl w.heap.size w)
  have HC0 := Lib.hid (And.intro hc0 (And.intro hf0 hB))
  clear hE hR
  go_enter Tryz.func46, Tryz.ntmps46
  go_wp2_with fail
  go_region_with (go_at_call 45; ((with_reducible refine (HD.out _ ?_ ?_).mono ?_); (rfl); (first | exact HB0.out | exact HB0.out.drew); rintro e w2 ⟨v, rfl, hown, hb⟩
                                  obtain ⟨vo, vn, vc, rfl⟩ := own_slice hown
                                  have B1 := Lib.hid (show Below w.heap.size w w2 from ⟨hb.os, hb.tape, hb.output, hb.size, hb.block⟩)
                                  have OW := Lib.hid hown
                                  have hc2 : w2.cell? ⟨R, 5, none⟩ = some v0 := (B1.out.cell (p := ⟨R, 5, none⟩) hlt).trans HC0.out.1
                                  have hf2 : w2.frozen? ⟨R, 5, none⟩ = false := frozen_of_row _ _ _ _ _ ((B1.out.block R hlt).trans HR.out)
                                  have hB2 : w2.cell? ⟨B, 0, none⟩ = some (.pointer (some ⟨R, 0, none⟩)) := (B1.out.cell (p := ⟨B, 0, none⟩) hBl).trans HC0.out.2.2
                                  clear hown hb))
  all_goals
    go_wp2_with fail
    go_end0
    refine ⟨_, rfl, Sets.store B1.out HR.out 5 _, ?_⟩
    obtain ⟨h1, h2 | ⟨g, cap, cur, e2, a1, a2, a3⟩⟩ := OW.out
    · exact ⟨h1, .inl h2⟩
    · exact ⟨h1, .inr ⟨g, cap, cur, e2, a1, (Below.heap_setCell _ _ _ _ (by
        have a1' : w.heap.size + 6 ≤ g := a1
        simp only; omega)).trans a2, a3⟩⟩

set_option maxRecDepth 100000 in
set_option maxHeartbeats 4000000 in
theorem takePos (s : ByteArray) (B R : Nat) (cs : Array Value) (w : World) (hs : s.size ≤ 1000000) (hE : Errs w) (hB : w.cell? ⟨B, 0, none⟩ = some (.pointer (some ⟨R, 0, none⟩))) (hR : w.heap[R]? = some (.cells cs 26 (0, 0))) (h9 : cs.size = 9) :
    Calls Tryz.prog 49 #[.string s, .pointer (some ⟨B, 0, none⟩)] w fun e w' => ∃ v, e = .returned (.tuple #[]) ∧ Sets R (cs.setIfInBounds 7 v) w w' ∧ w'.ownsRow (w.heap.size + 6) 3 1 v (splitB 44 s).length (inC ((splitB 44 s).map numZ)) := by
  have hlt : R < w.heap.size := (Array.getElem?_eq_some_iff.1 hR).1
  have hBl : B < w.heap.size := World.block_lt_of_cell? w ⟨B, 0, none⟩ hB
  have HE := Lib.hid hE
  have HR := Lib.hid hR
  have HD := Lib.hid (fun (W : World) (hsz : W.heap.size = w.heap.size) (hb : Below w.heap.size w W) => callsIn_wide.1 (numbers_in s hs W numZ (fun x W1 hx hb1 => number_any x W1 hx (HE.out.later (hb.trans (hb1.mono hb.size))))))
  have hc6 : ∃ v, w.cell? ⟨R, 7, none⟩ = some v := by
    rw [cell_of_row _ _ _ _ _ _ hR]
    exact ⟨cs[7]'(by omega), Array.getElem?_eq_getElem _⟩
  obtain ⟨v0, hc0⟩ := hc6
  have hf0 : w.frozen? ⟨R, 7, none⟩ = false := frozen_of_row _ _ _ _ _ hR
  have HB0 := Lib.hid (Below.refl w.heap.size w)
  have HC0 := Lib.hid (And.intro hc0 (And.intro hf0 hB))
  clear hE hR
  go_enter Tryz.func49, Tryz.ntmps49
  go_wp2_with fail
  go_region_with (go_at_call 45; ((with_reducible refine (HD.out _ ?_ ?_).mono ?_); (rfl); (first | exact HB0.out | exact HB0.out.drew); rintro e w2 ⟨v, rfl, hown, hb⟩
                                  obtain ⟨vo, vn, vc, rfl⟩ := own_slice hown
                                  have B1 := Lib.hid (show Below w.heap.size w w2 from ⟨hb.os, hb.tape, hb.output, hb.size, hb.block⟩)
                                  have OW := Lib.hid hown
                                  have hc2 : w2.cell? ⟨R, 7, none⟩ = some v0 := (B1.out.cell (p := ⟨R, 7, none⟩) hlt).trans HC0.out.1
                                  have hf2 : w2.frozen? ⟨R, 7, none⟩ = false := frozen_of_row _ _ _ _ _ ((B1.out.block R hlt).trans HR.out)
                                  have hB2 : w2.cell? ⟨B, 0, none⟩ = some (.pointer (some ⟨R, 0, none⟩)) := (B1.out.cell (p := ⟨B, 0, none⟩) hBl).trans HC0.out.2.2
                                  clear hown hb))
  all_goals
    go_wp2_with fail
    go_end0
    refine ⟨_, rfl, Sets.store B1.out HR.out 7 _, ?_⟩
    obtain ⟨h1, h2 | ⟨g, cap, cur, e2, a1, a2, a3⟩⟩ := OW.out
    · exact ⟨h1, .inl h2⟩
    · exact ⟨h1, .inr ⟨g, cap, cur, e2, a1, (Below.heap_setCell _ _ _ _ (by
        have a1' : w.heap.size + 6 ≤ g := a1
        simp only; omega)).trans a2, a3⟩⟩

set_option maxRecDepth 100000 in
set_option maxHeartbeats 4000000 in
theorem takeStart (s : ByteArray) (B R : Nat) (cs : Array Value) (w : World) (hL : Laid w) (hB : w.cell? ⟨B, 0, none⟩ = some (.pointer (some ⟨R, 0, none⟩))) (hR : w.heap[R]? = some (.cells cs 26 (0, 0))) (h9 : cs.size = 9) :
    Calls Tryz.prog 50 #[.string s, .pointer (some ⟨B, 0, none⟩)] w fun e w' => e = .returned (.tuple #[]) ∧ Sets R (cs.setIfInBounds 8 (.int .i64 (idxL daysL s.data.toList))) w w' := by
  have hlt : R < w.heap.size := (Array.getElem?_eq_some_iff.1 hR).1
  have hBl : B < w.heap.size := World.block_lt_of_cell? w ⟨B, 0, none⟩ hB
  have HL := Lib.hid hL
  have hib := idx_le s.data.toList daysL
  have FF := Lib.hid (fun (W : World) (hb : Below w.heap.size w W) => daysF W (HL.out.later hb))
  have IX := Lib.hid (fun (W : World) (hb : W.heap[w.heap.size]? = some (.cells daysC 9 (0, 0))) => (show Calls Tryz.prog 38 #[.slice (some ⟨w.heap.size, 0, none⟩) 7 7, .string s] W _ from index_any daysL s w.heap.size 7 W (fun j x hx => by
    rw [cell_of_row _ _ _ _ _ _ hb]
    show (daysL.map fun l => Value.string ⟨l.toArray⟩).toArray[j]? = _
    rw [List.getElem?_toArray, List.getElem?_map, hx]
    rfl) (by decide)))
  obtain ⟨i, hi⟩ : ∃ i, i = idxL daysL s.data.toList := ⟨_, rfl⟩
  rw [← hi] at IX hib ⊢
  have hil : -1 ≤ i ∧ i < 7 := hib
  obtain ⟨hi1, hi2⟩ := hil
  have hc0 : ∃ v, w.cell? ⟨R, 8, none⟩ = some v := by
    rw [cell_of_row _ _ _ _ _ _ hR]
    exact ⟨cs[8]'(by omega), Array.getElem?_eq_getElem _⟩
  obtain ⟨v0, hc0⟩ := hc0
  have hf0 : w.frozen? ⟨R, 8, none⟩ = false := frozen_of_row _ _ _ _ _ hR
  have HN := Lib.hid (heap_alloc_new w (.cells daysC 9))
  have HB0 := Lib.hid (Below.refl w.heap.size w)
  have HS := Lib.hid (fun W (hb : Below w.heap.size w W) => Sets.store hb hR 8 (.int .i64 i))
  clear hi hib hR hL
  go_enter Tryz.func50, Tryz.ntmps50
  go_wp2_with fail
  go_region_with (first
    | (go_at_call 25; ((with_reducible refine (FF.out _ ?_).mono ?_); (first | exact HB0.out | exact HB0.out.drew); rintro e w2 ⟨rfl, rfl⟩))
    | (go_at_call 38; ((with_reducible refine (IX.out _ ?_).mono ?_); (exact HN.out); rintro e w2 ⟨rfl, rfl⟩)))
  all_goals
    go_wp2_with fail
    go_end0
    refine ⟨rfl, ?_⟩
    first
      | exact HS.out _ (belowA _ HB0.out)
      | exact (HS.out _ (belowA _ HB0.out)).drew
      | exact ((HS.out _ HB0.out).alloc _).drew
      | exact (HS.out _ HB0.out).alloc _
end Go.Proofs.YtcleicjgeflbnaaGreatDoor
