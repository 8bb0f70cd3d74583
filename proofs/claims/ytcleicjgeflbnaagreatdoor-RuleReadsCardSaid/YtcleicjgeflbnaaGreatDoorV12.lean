/- rule.Read at the chapter's example: the walk. Conditions: the tables are laid, the errors of strconv lie in their boxes. -/
import Derived.Test.YtcleicjgeflbnaaGreatDoorV11
import Derived.Test.YtcleicjgeflbnaaGreatDoorV13
namespace Go.Proofs.YtcleicjgeflbnaaGreatDoor
open Go.RowKit Go.ChangeShapes Go.WideShapes Go.Deep
set_option linter.all false
attribute [local go_sem] Oper.semAt_some

set_option maxRecDepth 100000 in
set_option maxHeartbeats 8000000 in
theorem readEx_in (w : World) (hL : Laid w) (hE : Errs w) :
    CallsIn Fence.wide 5 Tryz.prog 8 #[.string exS] w fun e w' => ∃ v, e = .returned (.tuple #[.agg (rule2 v), .bool true]) ∧ Below w.heap.size w w' ∧ w'.ownsRow w.heap.size 36 2 v 1 (dnC [⟨-1, 4⟩]) := by
  have P1 := Lib.hid (fun (W : World) (a : Addr) => parts_any a W)
  have HL := Lib.hid hL
  have HE := Lib.hid hE
  clear hL hE
  refine callsIn_of_wp_marks Tryz.func8 rfl trivial ?_ rfl
  simp only [Tryz.ntmps8, List.size_toArray, List.length_cons, List.length_nil, Nat.reduceAdd, Nat.reduceSub, Array.replicate_succ, Array.replicate_zero, List.push_toArray, List.append_toArray, List.nil_append, List.cons_append]
  gi_wp2
  refine ⟨trivial, ?_⟩
  refine (callsIn_wide.2 (P1.out _ _)).mono ?_
  rintro e w1 ⟨rfl, rfl⟩
  gi_wp2
  refine ⟨trivial, ?_⟩
  obtain ⟨W6, hW6⟩ : ∃ W6, W6 = (((((w.alloc (.cells zeroC 26)).alloc (.cells #[.bool false] 4)).alloc (.cells rule0 26)).alloc (.cells #[.pointer (some ⟨w.heap.size + 1 + 1, 0, none⟩)] 39)).alloc (.map (ents (w.heap.size + 1 + 1 + 1)).toArray 9)).alloc (.cells #[.map (some (w.heap.size + 1 + 1 + 1 + 1))] 37) := ⟨_, rfl⟩
  have hs6 : W6.heap.size = w.heap.size + 6 := by rw [hW6]; simp
  have R6 : ReadAt w 0 W6 := by
    have hp : W6.heap = w.heap ++ #[.cells zeroC 26, .cells #[.bool false] 4, .cells rule0 26, .cells #[.pointer (some ⟨w.heap.size + 1 + 1, 0, none⟩)] 39, .map (ents (w.heap.size + 1 + 1 + 1)).toArray 9, .cells #[.map (some (w.heap.size + 1 + 1 + 1 + 1))] 37] := by
      rw [hW6]
      show (((((w.heap.push _).push _).push _).push _).push _).push _ = _
      apply Array.ext'
      simp
    have g : ∀ (j : Nat), W6.heap[w.heap.size + j]? = (#[Obj.cells zeroC 26, .cells #[.bool false] 4, .cells rule0 26, .cells #[.pointer (some ⟨w.heap.size + 1 + 1, 0, none⟩)] 39, .map (ents (w.heap.size + 1 + 1 + 1)).toArray 9, .cells #[.map (some (w.heap.size + 1 + 1 + 1 + 1))] 37] : Array Obj)[j]? := fun j => by
      rw [hp, Array.getElem?_append_right (by omega)]; congr 1; omega
    refine ⟨g 0, g 1, ⟨rule0, g 2, rfl⟩, g 3, g 4, g 5, ?_⟩
    rw [hW6]
    exact belowA _ (belowA _ (belowA _ (belowA _ (belowA _ (belowA _ (Below.refl _ _))))))
  rw [← hW6]
  refine (callsIn_wide.2 (SplitSeq_any 59 exS W6)).mono ?_
  rintro e w1 ⟨rfl, rfl⟩
  have q0 : (splitW 59 exS W6).heap[W6.heap.size]? = some (.cells #[.string exS] 9 (0, 0)) := by
    unfold splitW
    rw [Below.heap_alloc _ _ _ (by simp only [World.size_alloc]; omega)]
    exact heap_alloc2_old _ _ _
  have q1 : (splitW 59 exS W6).heap[W6.heap.size + 1]? = some (.cells #[.string ⟨#[59]⟩] 9 (0, 0)) := by
    unfold splitW
    rw [Below.heap_alloc _ _ _ (by simp only [World.size_alloc]; omega)]
    exact heap_alloc2_new _ _ _
  have q2 : (splitW 59 exS W6).heap[W6.heap.size + 2]? = some (.cells #[.int .i64 0] 3 (0, 0)) := by
    unfold splitW
    have := heap_alloc_new ((W6.alloc (.cells #[.string exS] 9)).alloc (.cells #[.string ⟨#[59]⟩] 9)) (.cells #[.int .i64 0] 3)
    simpa using this
  have RW : ReadAt w 0 (splitW 59 exS W6) := (((R6.turned (Turned.alloc _ _)).turned (Turned.alloc _ _)).turned (Turned.alloc _ _))
  have hsW : (splitW 59 exS W6).heap.size = w.heap.size + 9 := by simp [splitW, hs6]
  rw [hs6] at q0 q1 q2
  obtain ⟨WS, hWS⟩ : ∃ WS, WS = splitW 59 exS W6 := ⟨_, rfl⟩
  rw [← hWS] at q0 q1 q2 RW hsW ⊢
  have HQ := Lib.hid (And.intro q0 (And.intro q1 (And.intro q2 RW)))
  have h61 : w.heap.size + 6 = w.heap.size + 1 + 1 + 1 + 1 + 1 + 1 := rfl
  clear q0 q1 q2 RW hWS R6 hW6 h61
  rw [hs6]
  gi_wp2
  refine range_box (n := 5) (w.heap.size + 6) rfl (enters_of Tryz.func71 (by kernel_rfl) rfl) (encs := fun x : ByteArray => #[.string x]) (fun _ => rfl) [exA, exB]
    (fun pre W => ReadAt w pre.length W) (by omega) ?turned ?start (fun x => { tmps := #[.string exS, undef, .pointer (some ⟨w.heap.size, 0, none⟩), .pointer (some ⟨w.heap.size + 1, 0, none⟩), .pointer (some ⟨w.heap.size + 1 + 1, 0, none⟩), .pointer (some ⟨w.heap.size + 1 + 1 + 1 + 1 + 1, 0, none⟩), .string x, undef, undef, undef, undef, undef, undef, undef, (Value.agg #[.int .i64 0, .int .i64 1, .int .i64 0, .int .i64 (-1), .slice none 0 0, .slice none 0 0, .slice none 0 0, .slice none 0 0, .int .i64 0]), .map (some (w.heap.size + 1 + 1 + 1 + 1)), .string exS, .func (.func 71) #[] #[.pointer (some ⟨w.heap.size + 6 + 1, 0, none⟩), .pointer (some ⟨w.heap.size + 6, 0, none⟩), .pointer (some ⟨w.heap.size + 6 + 2, 0, none⟩)], .string x, undef, undef, undef, undef, undef, undef, undef, undef, undef, undef, undef, undef, undef, undef, undef, undef, undef, undef, undef, undef, undef, undef, undef, undef, undef, undef, undef, undef, undef, undef, undef, undef], defers := [] }) ?assign ?body ?seq (by omega) ?done
  case turned =>
    intro pre W W' ht h
    exact h.turned (by rw [← hsW]; exact ht)
  case start => exact HQ.out.2.2.2
  case assign =>
    intro l x W K hK
    gi_wp2
    exact hK
  case seq =>
    intro l J W1 h1 hJc hY hj
    have hj2 := split_in 59 4 l (w.heap.size + 6) exS J W1 hJc (by rw [ex_split]; exact hY) ((h1 _ (by omega)).trans HQ.out.1) ((h1 _ (by omega)).trans HQ.out.2.1) ((h1 _ (by omega)).trans HQ.out.2.2.1) (by decide) hj
    rw [ex_split] at hj2
    exact hj2
  case body =>
    intro l pre x W hsz hpx h
    obtain ⟨post, hp⟩ := hpx
    rcases split2 hp with ⟨rfl, rfl⟩ | ⟨rfl, rfl⟩
    · clear hp
      obtain ⟨cs, hR, hcs⟩ := h.rule
      have hB : W.cell? ⟨w.heap.size + 1 + 1 + 1, 0, none⟩ = some (.pointer (some ⟨w.heap.size + 1 + 1, 0, none⟩)) := by rw [cell_of_row _ _ _ _ _ _ h.bx]; rfl
      have hV : W.cell? ⟨w.heap.size + 1 + 1 + 1 + 1 + 1, 0, none⟩ = some (.map (some (w.heap.size + 1 + 1 + 1 + 1))) := by rw [cell_of_row _ _ _ _ _ _ h.vr]; rfl
      have hLK : ∀ q, (Instr.lookup 37 (.map (some (w.heap.size + 1 + 1 + 1 + 1))) (.string exFREQ) true).run Tryz.prog (W.drewN q) = .ok (.tuple #[.func (.func 37) #[] #[.pointer (some ⟨w.heap.size + 1 + 1 + 1, 0, none⟩)], .bool true]) (W.drewN q) := fun q =>
        run_look (W.drewN q) _ (ents (w.heap.size + 1 + 1 + 1)) 9 exFREQ (some (0, .func (.func 37) #[] #[.pointer (some ⟨w.heap.size + 1 + 1 + 1, 0, none⟩)])) h.mp rfl
      obtain rfl : cs = rule0 := hcs
      have TK := Lib.hid (fun (q : Nat) => takeFreq exMON (w.heap.size + 1 + 1 + 1) (w.heap.size + 1 + 1) rule0 (W.drewN q) (HL.out.later (h.drewN q).bel) hB hR rfl)
      rw [ex_mon] at TK
      have HS := Lib.hid h
      have HBW := Lib.hid h.bel
      clear h hR hB
      gi_wp2
      refine ⟨trivial, ?_⟩
      refine (CallsIn.inRound l (callsIn_wide.2 (cutA W))).mono ?_
      rintro e w1 ⟨rfl, q, rfl⟩
      have hLKq := hLK q
      clear hLK
      gi_wp2
      refine ⟨trivial, ?_⟩
      refine (CallsIn.inRound l (callsIn_wide.2 (TK.out q))).mono ?_
      rintro e w2 ⟨rfl, hS⟩
      have HF := Lib.hid ((HS.out.drewN q).sets (k' := 1) hS rfl)
      have HK := Lib.hid hS.block
      clear hS
      gi_wp2
      refine ⟨fun k h1 h2 => HK.out k (show k < W.heap.size by omega) (by omega), HF.out⟩
    · clear hp
      obtain ⟨cs, hR, hcs⟩ := h.rule
      have hB : W.cell? ⟨w.heap.size + 1 + 1 + 1, 0, none⟩ = some (.pointer (some ⟨w.heap.size + 1 + 1, 0, none⟩)) := by rw [cell_of_row _ _ _ _ _ _ h.bx]; rfl
      have hV : W.cell? ⟨w.heap.size + 1 + 1 + 1 + 1 + 1, 0, none⟩ = some (.map (some (w.heap.size + 1 + 1 + 1 + 1))) := by rw [cell_of_row _ _ _ _ _ _ h.vr]; rfl
      have hLK : ∀ q, (Instr.lookup 37 (.map (some (w.heap.size + 1 + 1 + 1 + 1))) (.string exBYDAY) true).run Tryz.prog (W.drewN q) = .ok (.tuple #[.func (.func 47) #[] #[.pointer (some ⟨w.heap.size + 1 + 1 + 1, 0, none⟩)], .bool true]) (W.drewN q) := fun q =>
        run_look (W.drewN q) _ (ents (w.heap.size + 1 + 1 + 1)) 9 exBYDAY (some (6, .func (.func 47) #[] #[.pointer (some ⟨w.heap.size + 1 + 1 + 1, 0, none⟩)])) h.mp rfl
      obtain rfl : cs = rule1 := hcs
      have TK := Lib.hid (fun (q : Nat) => takeDays exFR (w.heap.size + 1 + 1 + 1) (w.heap.size + 1 + 1) rule1 (W.drewN q) (by decide) (HL.out.later (h.drewN q).bel) (HE.out.later (h.drewN q).bel) hB hR rfl)
      rw [ex_days, ex_fr] at TK
      have HS := Lib.hid h
      have HBW := Lib.hid h.bel
      clear h hR hB
      gi_wp2
      refine ⟨trivial, ?_⟩
      refine (CallsIn.inRound l (callsIn_wide.2 (cutB W))).mono ?_
      rintro e w1 ⟨rfl, q, rfl⟩
      have hLKq := hLK q
      clear hLK
      gi_wp2
      refine ⟨trivial, ?_⟩
      refine (CallsIn.inRound l (callsIn_wide.2 (TK.out q))).mono ?_
      rintro e w2 ⟨v, rfl, hS, ho⟩
      have HF := Lib.hid ((HS.out.drewN q).sets (k' := 2) hS ⟨v, rfl, own_base ho (show w.heap.size + 11 ≤ W.heap.size + 6 by omega)⟩)
      have HK := Lib.hid hS.block
      clear hS ho
      gi_wp2
      refine ⟨fun k h1 h2 => HK.out k (show k < W.heap.size by omega) (by omega), HF.out⟩
  case done =>
    intro W h hD hl
    obtain ⟨cs, hR, hcs⟩ := h.rule
    obtain ⟨v, rfl, ho⟩ : ∃ v, cs = rule2 v ∧ W.ownsRow (w.heap.size + 11) 36 2 v 1 (dnC [⟨-1, 4⟩]) := hcs
    have hT := text_yes (rule2 v).toList exR W (ex_rel ho) ex_few (HL.out.later h.bel) ex_may
    rw [ex_text] at hT
    obtain ⟨vo, vn, vc, rfl⟩ := own_slice ho
    have T := Lib.hid (show Calls Tryz.prog 13 #[.agg (rule2 (.slice vo vn vc))] W _ from hT)
    have kR : ∀ j, W.cell? ⟨w.heap.size + 1 + 1, j, none⟩ = (rule2 (.slice vo vn vc))[j]? := fun j => cell_of_row _ _ _ _ _ _ hR
    have HS := Lib.hid h
    have HO := Lib.hid ho
    have HD := Lib.hid hD
    have HR := Lib.hid hR
    clear h ho hD hR hT
    gi_wp2
    refine ⟨trivial, ?_⟩
    refine (callsIn_wide.2 T.out).mono ?_
    rintro e w2 ⟨rfl, hb⟩
    have HB := Lib.hid hb
    have gZ := (hb.block _ (Array.getElem?_eq_some_iff.1 HS.out.res).1).trans HS.out.res
    have gK := (hb.block _ (Array.getElem?_eq_some_iff.1 HS.out.okc).1).trans HS.out.okc
    have gR := (hb.block _ (Array.getElem?_eq_some_iff.1 HR.out).1).trans HR.out
    have kR2 : ∀ j, w2.cell? ⟨w.heap.size + 1 + 1, j, none⟩ = (rule2 (.slice vo vn vc))[j]? := fun j => cell_of_row _ _ _ _ _ _ gR
    have kZ2 : ∀ j, w2.cell? ⟨w.heap.size, j, none⟩ = zeroC[j]? := fun j => cell_of_row _ _ _ _ _ _ gZ
    have kK2 : w2.cell? ⟨w.heap.size + 1, 0, none⟩ = some (.bool false) := by rw [cell_of_row _ _ _ _ _ _ gK]; rfl
    have fZ2 : ∀ j, w2.frozen? ⟨w.heap.size, j, none⟩ = false := fun j => frozen_of_row _ _ _ _ _ gZ
    have fK2 : w2.frozen? ⟨w.heap.size + 1, 0, none⟩ = false := frozen_of_row _ _ _ _ _ gK
    have HZ := Lib.hid (And.intro gZ (And.intro gK gR))
    clear hb gZ gK gR kR
    gi_wp2
    have F := Lib.hid (fill_spec w2 w.heap.size (.slice vo vn vc) HZ.out.1 HZ.out.2.1)
    have hD9 : W.heap[w.heap.size + 9]? = some (.deferred (some [])) := by rw [← hsW]; exact HD.out
    have hB9 : ∀ k, k < W.heap.size → w2.heap[k]? = W.heap[k]? := fun k hk => HB.out.block k hk
    refine leaves_marks (by simp) [w.heap.size + 9] (fillW w2 w.heap.size (.slice vo vn vc)) (by simp) (fun D hd => ?_) (fun W' k1 k2 k3 k4 k5 => ⟨_, read_results _ W' w.heap.size (w.heap.size + 1) (rule2 (.slice vo vn vc)) true rfl rfl ?_ rfl ?_, .slice vo vn vc, rfl, ?_, ?_⟩)
    · rw [List.mem_singleton.1 hd, F.out.2.2.1 _ (by omega) (by omega), hB9 _ (Array.getElem?_eq_some_iff.1 hD9).1]
      exact hD9
    · rw [k1 _ (by rw [List.mem_singleton]; omega)]
      exact F.out.1
    · rw [k1 _ (by rw [List.mem_singleton]; omega)]
      exact F.out.2.1
    · have hf := F.out
      have hb := HB.out
      have hw := HS.out.bel
      refine ⟨k2.trans (hf.2.2.2.1.trans (hb.os.trans hw.os)), k3.trans (hf.2.2.2.2.1.trans (hb.tape.trans hw.tape)), k4.trans (hf.2.2.2.2.2.1.trans (hb.output.trans hw.output)), ?_, fun k hk => ?_⟩
      · have h1 := hf.2.2.2.2.2.2
        have h2 := hb.size
        have h3 := hw.size
        omega
      · rw [k1 _ (by rw [List.mem_singleton]; omega), hf.2.2.1 _ (by omega) (by omega), hB9 _ (by have := hw.size; omega)]
        exact hw.block k hk
    · obtain ⟨h1, h2 | ⟨g, cap, cur, e2, a1, a2, a3⟩⟩ := HO.out
      · exact ⟨h1, .inl h2⟩
      · refine ⟨h1, .inr ⟨g, cap, cur, e2, by omega, ?_, a3⟩⟩
        rw [k1 _ (by rw [List.mem_singleton]; omega), F.out.2.2.1 _ (by omega) (by omega), hB9 _ (Array.getElem?_eq_some_iff.1 a2).1]
        exact a2
end Go.Proofs.YtcleicjgeflbnaaGreatDoor
