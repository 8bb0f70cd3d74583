/- rule.Read at any text: the walk. It hands back the rule of which it is the text, if there is one. Conditions: the tables are laid, the errors of strconv lie in their boxes, the text is not too long. -/
import Derived.Test.YtcleicjgeflbnaaGreatDoorQ6
import Derived.Test.YtcleicjgeflbnaaGreatDoorX6
namespace Go.Proofs.YtcleicjgeflbnaaGreatDoor
open Go.RowKit Go.ChangeShapes Go.WideShapes Go.Deep
set_option linter.all false
attribute [local go_sem] Oper.semAt_some

/-- What is left where a part is none. -/
structure Failed (w : World) (s : ByteArray) (W : World) : Prop where
  no : ∀ r, readL (splitB 59 s) ruleB ≠ some r
  res : W.heap[w.heap.size]? = some (.cells zeroC 26 (0, 0))
  okc : W.heap[w.heap.size + 1]? = some (.cells #[.bool false] 4 (0, 0))
  bel : Below w.heap.size w W
theorem Failed.turned {w W W' : World} {s : ByteArray} (h : Failed w s W) (ht : Turned (w.heap.size + 9) (w.heap.size + 6) W W') : Failed w s W' := by
  have g : ∀ {b : Nat} {o : Obj}, b < w.heap.size + 6 → W.heap[b]? = some o → W'.heap[b]? = some o := fun hb ho => (ht.block _ (Array.getElem?_eq_some_iff.1 ho).1 (by omega) (by omega) (by omega)).trans ho
  exact ⟨h.no, g (by omega) h.res, g (by omega) h.okc, h.bel.trans ⟨ht.os, ht.tape, ht.output, ht.size, fun k hk => ht.block k (by have := h.bel.size; omega) (by omega) (by omega) (by omega)⟩⟩

set_option maxRecDepth 100000 in
set_option maxHeartbeats 8000000 in
theorem read_in (s : ByteArray) (w : World) (hL : Laid w) (hE : Errs w) (hs : s.size ≤ 9999) :
    CallsIn Fence.wide 5 Tryz.prog 8 #[.string s] w fun e w' =>
      (∃ (r : RuleD) (cs : List Value), readL (splitB 59 s) ruleB = some r ∧ mayR r ∧ toB (textR shortT r) = s ∧ e = .returned (.tuple #[.agg cs.toArray, .bool true]) ∧ rRule w' cs r ∧ fewR r ∧ Below w.heap.size w w') ∨
      ((∀ r, readL (splitB 59 s) ruleB = some r → mayR r → toB (textR shortT r) ≠ s) ∧ e = .returned (.tuple #[.agg zeroC, .bool false]) ∧ Below w.heap.size w w') := by
  have HLE := Lib.hid (splitB_le 59 s)
  have P1 := Lib.hid (fun (W : World) (a : Addr) => parts_any a W)
  have HL := Lib.hid hL
  have HE := Lib.hid hE
  clear hL hE
  refine callsIn_of_wp_marks Tryz.func8 rfl trivial ?_ rfl
  simp only [Tryz.ntmps8, List.size_toArray, List.length_cons, List.length_nil, Nat.reduceAdd, Nat.reduceSub, Array.replicate_succ, Array.replicate_zero, List.push_toArray, List.append_toArray, List.nil_append, List.cons_append]
  gi_wp2
  refine ⟨trivial, ?_⟩
  refine (callsIn_wide.2 (P1.out _ _)).mono ?_
  rintro e w1 ⟨rfl, rfl⟩
  gi_wp2
  refine ⟨trivial, ?_⟩
  obtain ⟨W6, hW6⟩ : ∃ W6, W6 = (((((w.alloc (.cells zeroC 26)).alloc (.cells #[.bool false] 4)).alloc (.cells rule0 26)).alloc (.cells #[.pointer (some ⟨w.heap.size + 1 + 1, 0, none⟩)] 39)).alloc (.map (ents (w.heap.size + 1 + 1 + 1)).toArray 9)).alloc (.cells #[.map (some (w.heap.size + 1 + 1 + 1 + 1))] 37) := ⟨_, rfl⟩
  have hs6 : W6.heap.size = w.heap.size + 6 := by rw [hW6]; simp
  have R6 : RAt w ruleB W6 := by
    have hp : W6.heap = w.heap ++ #[.cells zeroC 26, .cells #[.bool false] 4, .cells rule0 26, .cells #[.pointer (some ⟨w.heap.size + 1 + 1, 0, none⟩)] 39, .map (ents (w.heap.size + 1 + 1 + 1)).toArray 9, .cells #[.map (some (w.heap.size + 1 + 1 + 1 + 1))] 37] := by
      rw [hW6]
      show (((((w.heap.push _).push _).push _).push _).push _).push _ = _
      apply Array.ext'
      simp
    have g : ∀ (j : Nat), W6.heap[w.heap.size + j]? = (#[Obj.cells zeroC 26, .cells #[.bool false] 4, .cells rule0 26, .cells #[.pointer (some ⟨w.heap.size + 1 + 1, 0, none⟩)] 39, .map (ents (w.heap.size + 1 + 1 + 1)).toArray 9, .cells #[.map (some (w.heap.size + 1 + 1 + 1 + 1))] 37] : Array Obj)[j]? := fun j => by
      rw [hp, Array.getElem?_append_right (by omega)]; congr 1; omega
    refine ⟨g 0, g 1, ⟨rule0, g 2, .slice none 0 0, .slice none 0 0, .slice none 0 0, .slice none 0 0, rfl, World.ownsRow_nil _ _ _ _, World.ownsRow_nil _ _ _ _, World.ownsRow_nil _ _ _ _, World.ownsRow_nil _ _ _ _⟩, g 3, g 4, g 5, ?_⟩
    rw [hW6]
    exact belowA _ (belowA _ (belowA _ (belowA _ (belowA _ (belowA _ (Below.refl _ _))))))
  rw [← hW6]
  refine (callsIn_wide.2 (SplitSeq_any 59 s W6)).mono ?_
  rintro e w1 ⟨rfl, rfl⟩
  have q0 : (splitW 59 s W6).heap[W6.heap.size]? = some (.cells #[.string s] 9 (0, 0)) := by
    unfold splitW
    rw [Below.heap_alloc _ _ _ (by simp only [World.size_alloc]; omega)]
    exact heap_alloc2_old _ _ _
  have q1 : (splitW 59 s W6).heap[W6.heap.size + 1]? = some (.cells #[.string ⟨#[59]⟩] 9 (0, 0)) := by
    unfold splitW
    rw [Below.heap_alloc _ _ _ (by simp only [World.size_alloc]; omega)]
    exact heap_alloc2_new _ _ _
  have q2 : (splitW 59 s W6).heap[W6.heap.size + 2]? = some (.cells #[.int .i64 0] 3 (0, 0)) := by
    unfold splitW
    have := heap_alloc_new ((W6.alloc (.cells #[.string s] 9)).alloc (.cells #[.string ⟨#[59]⟩] 9)) (.cells #[.int .i64 0] 3)
    simpa using this
  have RW : RAt w ruleB (splitW 59 s W6) := (((R6.turned (Turned.alloc _ _)).turned (Turned.alloc _ _)).turned (Turned.alloc _ _))
  have hsW : (splitW 59 s W6).heap.size = w.heap.size + 9 := by simp [splitW, hs6]
  rw [hs6] at q0 q1 q2
  obtain ⟨WS, hWS⟩ : ∃ WS, WS = splitW 59 s W6 := ⟨_, rfl⟩
  rw [← hWS] at q0 q1 q2 RW hsW ⊢
  have HQ := Lib.hid (And.intro q0 (And.intro q1 (And.intro q2 RW)))
  have h61 : w.heap.size + 6 = w.heap.size + 1 + 1 + 1 + 1 + 1 + 1 := rfl
  clear q0 q1 q2 RW hWS R6 hW6 h61
  rw [hs6]
  gi_wp2
  refine range_box2 (n := 5) (w.heap.size + 6) rfl (enters_of Tryz.func71 (by kernel_rfl) rfl) (encs := fun x : ByteArray => #[.string x]) (fun _ => rfl) (splitB 59 s)
    (fun pre W => ∃ r, readL pre ruleB = some r ∧ RAt w r W ∧ okR r) (by omega) (Failed w s) ?turned ?turnedx ?start (fun x => { tmps := #[.string s, undef, .pointer (some ⟨w.heap.size, 0, none⟩), .pointer (some ⟨w.heap.size + 1, 0, none⟩), .pointer (some ⟨w.heap.size + 1 + 1, 0, none⟩), .pointer (some ⟨w.heap.size + 1 + 1 + 1 + 1 + 1, 0, none⟩), .string x, undef, undef, undef, undef, undef, undef, undef, (Value.agg #[.int .i64 0, .int .i64 1, .int .i64 0, .int .i64 (-1), .slice none 0 0, .slice none 0 0, .slice none 0 0, .slice none 0 0, .int .i64 0]), .map (some (w.heap.size + 1 + 1 + 1 + 1)), .string s, .func (.func 71) #[] #[.pointer (some ⟨w.heap.size + 6 + 1, 0, none⟩), .pointer (some ⟨w.heap.size + 6, 0, none⟩), .pointer (some ⟨w.heap.size + 6 + 2, 0, none⟩)], .string x, undef, undef, undef, undef, undef, undef, undef, undef, undef, undef, undef, undef, undef, undef, undef, undef, undef, undef, undef, undef, undef, undef, undef, undef, undef, undef, undef, undef, undef, undef, undef, undef], defers := [] }) ?assign ?body ?seq (by omega) ?done ?stop
  case turned =>
    rintro pre W W' ht ⟨r, h1, h2, h3⟩
    exact ⟨r, h1, h2.turned (by rw [← hsW]; exact ht), h3⟩
  case turnedx =>
    intro W W' ht h
    exact h.turned (by rw [← hsW]; exact ht)
  case start => exact ⟨ruleB, rfl, HQ.out.2.2.2, okR_B⟩
  case assign =>
    intro l x W K hK
    gi_wp2
    exact hK
  case seq =>
    intro l J Jx W1 h1 hJc hY hj
    exact split_in2 59 4 l (w.heap.size + 6) s J Jx W1 hJc hY ((h1 _ (by omega)).trans HQ.out.1) ((h1 _ (by omega)).trans HQ.out.2.1) ((h1 _ (by omega)).trans HQ.out.2.2.1) (by omega) hj
  case body =>
    rintro l pre x W hsz hpx ⟨r, hr, h, hok⟩
    have hxm : x ∈ splitB 59 s := by obtain ⟨post, e⟩ := hpx; rw [e]; simp
    have hxs : x.size ≤ 9999 := Nat.le_trans (HLE.out.2 x hxm) hs
    have hvs : (cutV x).size ≤ 9999 := Nat.le_trans (cutV_le x) hxs
    obtain ⟨b, hcut⟩ := cut_any x W (by omega)
    have hV : W.cell? ⟨w.heap.size + 1 + 1 + 1 + 1 + 1, 0, none⟩ = some (.map (some (w.heap.size + 1 + 1 + 1 + 1))) := by rw [cell_of_row _ _ _ _ _ _ h.vr]; rfl
    have HCUT := Lib.hid hcut
    have HS := Lib.hid h
    cases hset : setP (cutK x) (cutV x) r with
    | none =>
      have HNO := Lib.hid (show ∀ r, readL (splitB 59 s) ruleB ≠ some r by
        intro r2 e2
        obtain ⟨post, e⟩ := hpx
        rw [e, readL_none hr hset] at e2
        cases e2)
      have hLK : ∀ q, (Instr.lookup 37 (.map (some (w.heap.size + 1 + 1 + 1 + 1))) (.string (cutK x)) true).run Tryz.prog (W.drewN q) = .ok (.tuple #[.nilFunc, .bool false]) (W.drewN q) := fun q =>
        run_look (W.drewN q) _ (ents (w.heap.size + 1 + 1 + 1)) 9 (cutK x) none h.mp (look_miss _ _ _ _ hset)
      have kZ : ∀ j, W.cell? ⟨w.heap.size, j, none⟩ = zeroC[j]? := fun j => cell_of_row _ _ _ _ _ _ h.res
      have kK : W.cell? ⟨w.heap.size + 1, 0, none⟩ = some (.bool false) := by rw [cell_of_row _ _ _ _ _ _ h.okc]; rfl
      have fZ : ∀ j, W.frozen? ⟨w.heap.size, j, none⟩ = false := fun j => frozen_of_row _ _ _ _ _ h.res
      have fK : W.frozen? ⟨w.heap.size + 1, 0, none⟩ = false := frozen_of_row _ _ _ _ _ h.okc
      clear h hr hcut hset hpx hok hxm
      gi_wp2
      refine ⟨trivial, ?_⟩
      refine (CallsIn.inRound l (callsIn_wide.2 HCUT.out)).mono ?_
      rintro e w1 ⟨rfl, q, rfl⟩
      have hLKq := hLK q
      clear hLK
      gi_wp2
      have F := Lib.hid (fillG_spec (W.drewN q) w.heap.size (.int .i64 0) (.int .i64 0) (.int .i64 0) (.int .i64 0) (.slice none 0 0) (.slice none 0 0) (.slice none 0 0) (.slice none 0 0) (.int .i64 0) false false HS.out.res HS.out.okc)
      refine ⟨fun k h1 h2 => F.out.2.2.1 k (by omega) (by omega), HNO.out, F.out.1, F.out.2.1, ?_⟩
      have hf := F.out
      have hw := HS.out.bel
      refine ⟨hf.2.2.2.1.trans hw.os, hf.2.2.2.2.1.trans hw.tape, hf.2.2.2.2.2.1.trans hw.output, ?_, fun k hk => (hf.2.2.1 k (by omega) (by omega)).trans (hw.block k hk)⟩
      exact Nat.le_trans hw.size (Nat.le_of_eq hf.2.2.2.2.2.2.symm)
    | some r' =>
      have HSN := Lib.hid (readL_snoc hr hset)
      have HOK := Lib.hid (okR_set hok hvs hset)
      have HSET := Lib.hid hset
      clear h hr hcut hset hpx hok hxm
      gi_wp2
      refine ⟨trivial, ?_⟩
      refine (CallsIn.inRound l (callsIn_wide.2 HCUT.out)).mono ?_
      rintro e w1 ⟨rfl, q, rfl⟩
      obtain ⟨i, f, hf1, hf2, hf3⟩ := take_all w (W.drewN q) r r' (cutK x) (cutV x) (HS.out.drewN q) (show w.heap.size + 6 ≤ W.heap.size by omega) (HL.out.later (HS.out.drewN q).bel) (HE.out.later (HS.out.drewN q).bel) (by omega) HSET.out
      have hLK := run_look (W.drewN q) _ (ents (w.heap.size + 1 + 1 + 1)) 9 (cutK x) _ (HS.out.drewN q).mp hf1
      have HT := Lib.hid hf3
      clear hf3
      gi_wp2
      refine ⟨trivial, ?_⟩
      refine (CallsIn.inRound l (callsIn_wide.2 HT.out)).mono ?_
      rintro e w2 ⟨rfl, hS, hk⟩
      have HF := Lib.hid hS
      have HK := Lib.hid hk
      clear hS hk
      gi_wp2
      exact ⟨fun k h1 h2 => HK.out k (show k < W.heap.size by omega) (by omega), r', HSN.out, HF.out, HOK.out⟩
  case done =>
    rintro W ⟨r, hr, h, hok⟩ hD hl
    obtain ⟨cs, hR, m, d, y, p, rfl, o1, o2, o3, o4⟩ := h.rule
    obtain ⟨mo, mn, mc, rfl⟩ := own_slice o1
    obtain ⟨do_, dn, dc, rfl⟩ := own_slice o2
    obtain ⟨yo, yn, yc, rfl⟩ := own_slice o3
    obtain ⟨po, pn, pc, rfl⟩ := own_slice o4
    have hrel := rel_of hok o1 o2 o3 o4
    obtain ⟨o, ho⟩ : ∃ g, g = dec (mayR r) := ⟨_, rfl⟩
    obtain ⟨X, hX⟩ : ∃ X, X = if o then toB (textR shortT r) else ⟨#[]⟩ := ⟨_, rfl⟩
    have T := Lib.hid (show Calls Tryz.prog 13 #[.agg #[.int .i64 r.freq, .int .i64 r.interval, .int .i64 r.count, .int .i64 r.until_, .slice mo mn mc, .slice do_ dn dc, .slice yo yn yc, .slice po pn pc, .int .i64 r.start]] W _ from text_any _ r W hrel hok.few (HL.out.later h.bel) X o ho hX)
    have kR : ∀ j, W.cell? ⟨w.heap.size + 1 + 1, j, none⟩ = (#[.int .i64 r.freq, .int .i64 r.interval, .int .i64 r.count, .int .i64 r.until_, .slice mo mn mc, .slice do_ dn dc, .slice yo yn yc, .slice po pn pc, .int .i64 r.start] : Array Value)[j]? := fun j => cell_of_row _ _ _ _ _ _ hR
    have HS := Lib.hid h
    have HO := Lib.hid (And.intro o1 (And.intro o2 (And.intro o3 o4)))
    have HD := Lib.hid hD
    have HR := Lib.hid hR
    have HOK := Lib.hid hok
    have hcase : o = false ∨ (o = true ∧ X ≠ s) ∨ (o = true ∧ X = s) := by
      cases o
      · exact .inl rfl
      · by_cases e : X = s
        · exact .inr (.inr ⟨rfl, e⟩)
        · exact .inr (.inl ⟨rfl, e⟩)
    have hyes : o = true → mayR r ∧ X = toB (textR shortT r) := fun e => by
      rw [e] at ho hX
      exact ⟨(dec_iff (p := mayR r)).1 ho.symm, by rw [hX]; rfl⟩
    have hno : (∀ e : o = true, X ≠ s) → ∀ r', readL (splitB 59 s) ruleB = some r' → mayR r' → toB (textR shortT r') ≠ s := fun e r' hr' hm => by
      obtain rfl : r = r' := Option.some.inj (hr.symm.trans hr')
      have ot : o = true := by rw [ho]; exact dec_t hm
      rw [← (hyes ot).2]
      exact e ot
    clear h o1 o2 o3 o4 hD hR hok hrel ho hX
    rcases hcase with rfl | ⟨rfl, hne⟩ | ⟨rfl, rfl⟩
    · have HNO := Lib.hid (hno (fun e => by cases e))
      clear hno hyes hr
      gi_wp2
      refine ⟨trivial, ?_⟩
      refine (callsIn_wide.2 T.out).mono ?_
      rintro e w2 ⟨rfl, hb⟩
      have HB := Lib.hid hb
      have gZ := (hb.block _ (Array.getElem?_eq_some_iff.1 HS.out.res).1).trans HS.out.res
      have gK := (hb.block _ (Array.getElem?_eq_some_iff.1 HS.out.okc).1).trans HS.out.okc
      have gR := (hb.block _ (Array.getElem?_eq_some_iff.1 HR.out).1).trans HR.out
      have kR2 : ∀ j, w2.cell? ⟨w.heap.size + 1 + 1, j, none⟩ = (#[.int .i64 r.freq, .int .i64 r.interval, .int .i64 r.count, .int .i64 r.until_, .slice mo mn mc, .slice do_ dn dc, .slice yo yn yc, .slice po pn pc, .int .i64 r.start] : Array Value)[j]? := fun j => cell_of_row _ _ _ _ _ _ gR
      have kZ2 : ∀ j, w2.cell? ⟨w.heap.size, j, none⟩ = zeroC[j]? := fun j => cell_of_row _ _ _ _ _ _ gZ
      have kK2 : w2.cell? ⟨w.heap.size + 1, 0, none⟩ = some (.bool false) := by rw [cell_of_row _ _ _ _ _ _ gK]; rfl
      have fZ2 : ∀ j, w2.frozen? ⟨w.heap.size, j, none⟩ = false := fun j => frozen_of_row _ _ _ _ _ gZ
      have fK2 : w2.frozen? ⟨w.heap.size + 1, 0, none⟩ = false := frozen_of_row _ _ _ _ _ gK
      have HZ := Lib.hid (And.intro gZ (And.intro gK gR))
      clear hb gZ gK gR kR
      gi_wp2
      have hD9 : W.heap[w.heap.size + 9]? = some (.deferred (some [])) := by rw [← hsW]; exact HD.out
      have hB9 : ∀ k, k < W.heap.size → w2.heap[k]? = W.heap[k]? := fun k hk => HB.out.block k hk
      have F := Lib.hid (fillG_spec w2 w.heap.size (.int .i64 0) (.int .i64 0) (.int .i64 0) (.int .i64 0) (.slice none 0 0) (.slice none 0 0) (.slice none 0 0) (.slice none 0 0) (.int .i64 0) false false HZ.out.1 HZ.out.2.1)
      refine leaves_marks (by simp) [w.heap.size + 9] (fillG w2 w.heap.size (.int .i64 0) (.int .i64 0) (.int .i64 0) (.int .i64 0) (.slice none 0 0) (.slice none 0 0) (.slice none 0 0) (.slice none 0 0) (.int .i64 0) false) (by simp) (fun D hd => ?_) (fun W' k1 k2 k3 k4 k5 => ⟨_, read_results _ W' w.heap.size (w.heap.size + 1) (zeroC) false rfl rfl ?_ rfl ?_, (.inr ⟨HNO.out, rfl, ?_⟩)⟩)
      · rw [List.mem_singleton.1 hd, F.out.2.2.1 _ (by omega) (by omega), hB9 _ (Array.getElem?_eq_some_iff.1 hD9).1]
        exact hD9
      · rw [k1 _ (by rw [List.mem_singleton]; omega)]
        exact F.out.1
      · rw [k1 _ (by rw [List.mem_singleton]; omega)]
        exact F.out.2.1
      · have hf := F.out
        have hb := HB.out
        have hw := HS.out.bel
        refine ⟨k2.trans (hf.2.2.2.1.trans (hb.os.trans hw.os)), k3.trans (hf.2.2.2.2.1.trans (hb.tape.trans hw.tape)), k4.trans (hf.2.2.2.2.2.1.trans (hb.output.trans hw.output)), ?_, fun k hk => ?_⟩
        · have h1 := hf.2.2.2.2.2.2
          have h2 := hb.size
          have h3 := hw.size
          omega
        · rw [k1 _ (by rw [List.mem_singleton]; omega), hf.2.2.1 _ (by omega) (by omega), hB9 _ (by have := hw.size; omega)]
          exact hw.block k hk
    · have HNO := Lib.hid (hno (fun _ => hne))
      have hbne : (X.toList == s.toList) = false := by
        rw [beq_eq_false_iff_ne]
        intro e
        rw [ByteArray.toList_eq, ByteArray.toList_eq] at e
        exact hne (by rw [← toB_of X, e, toB_of])
      clear hno hyes hr hne
      gi_wp2
      refine ⟨trivial, ?_⟩
      refine (callsIn_wide.2 T.out).mono ?_
      rintro e w2 ⟨rfl, hb⟩
      have HB := Lib.hid hb
      have gZ := (hb.block _ (Array.getElem?_eq_some_iff.1 HS.out.res).1).trans HS.out.res
      have gK := (hb.block _ (Array.getElem?_eq_some_iff.1 HS.out.okc).1).trans HS.out.okc
      have gR := (hb.block _ (Array.getElem?_eq_some_iff.1 HR.out).1).trans HR.out
      have kR2 : ∀ j, w2.cell? ⟨w.heap.size + 1 + 1, j, none⟩ = (#[.int .i64 r.freq, .int .i64 r.interval, .int .i64 r.count, .int .i64 r.until_, .slice mo mn mc, .slice do_ dn dc, .slice yo yn yc, .slice po pn pc, .int .i64 r.start] : Array Value)[j]? := fun j => cell_of_row _ _ _ _ _ _ gR
      have kZ2 : ∀ j, w2.cell? ⟨w.heap.size, j, none⟩ = zeroC[j]? := fun j => cell_of_row _ _ _ _ _ _ gZ
      have kK2 : w2.cell? ⟨w.heap.size + 1, 0, none⟩ = some (.bool false) := by rw [cell_of_row _ _ _ _ _ _ gK]; rfl
      have fZ2 : ∀ j, w2.frozen? ⟨w.heap.size, j, none⟩ = false := fun j => frozen_of_row _ _ _ _ _ gZ
      have fK2 : w2.frozen? ⟨w.heap.size + 1, 0, none⟩ = false := frozen_of_row _ _ _ _ _ gK
      have HZ := Lib.hid (And.intro gZ (And.intro gK gR))
      clear hb gZ gK gR kR
      gi_wp2
      have hD9 : W.heap[w.heap.size + 9]? = some (.deferred (some [])) := by rw [← hsW]; exact HD.out
      have hB9 : ∀ k, k < W.heap.size → w2.heap[k]? = W.heap[k]? := fun k hk => HB.out.block k hk
      have F := Lib.hid (fillG_spec w2 w.heap.size (.int .i64 0) (.int .i64 0) (.int .i64 0) (.int .i64 0) (.slice none 0 0) (.slice none 0 0) (.slice none 0 0) (.slice none 0 0) (.int .i64 0) false false HZ.out.1 HZ.out.2.1)
      refine leaves_marks (by simp) [w.heap.size + 9] (fillG w2 w.heap.size (.int .i64 0) (.int .i64 0) (.int .i64 0) (.int .i64 0) (.slice none 0 0) (.slice none 0 0) (.slice none 0 0) (.slice none 0 0) (.int .i64 0) false) (by simp) (fun D hd => ?_) (fun W' k1 k2 k3 k4 k5 => ⟨_, read_results _ W' w.heap.size (w.heap.size + 1) (zeroC) false rfl rfl ?_ rfl ?_, (.inr ⟨HNO.out, rfl, ?_⟩)⟩)
      · rw [List.mem_singleton.1 hd, F.out.2.2.1 _ (by omega) (by omega), hB9 _ (Array.getElem?_eq_some_iff.1 hD9).1]
        exact hD9
      · rw [k1 _ (by rw [List.mem_singleton]; omega)]
        exact F.out.1
      · rw [k1 _ (by rw [List.mem_singleton]; omega)]
        exact F.out.2.1
      · have hf := F.out
        have hb := HB.out
        have hw := HS.out.bel
        refine ⟨k2.trans (hf.2.2.2.1.trans (hb.os.trans hw.os)), k3.trans (hf.2.2.2.2.1.trans (hb.tape.trans hw.tape)), k4.trans (hf.2.2.2.2.2.1.trans (hb.output.trans hw.output)), ?_, fun k hk => ?_⟩
        · have h1 := hf.2.2.2.2.2.2
          have h2 := hb.size
          have h3 := hw.size
          omega
        · rw [k1 _ (by rw [List.mem_singleton]; omega), hf.2.2.1 _ (by omega) (by omega), hB9 _ (by have := hw.size; omega)]
          exact hw.block k hk
    · have HM := Lib.hid (hyes rfl).1
      have HX := Lib.hid (hyes rfl).2.symm
      have hbeq : (X.toList == X.toList) = true := by simp
      clear hno hyes
      gi_wp2
      refine ⟨trivial, ?_⟩
      refine (callsIn_wide.2 T.out).mono ?_
      rintro e w2 ⟨rfl, hb⟩
      have HB := Lib.hid hb
      have gZ := (hb.block _ (Array.getElem?_eq_some_iff.1 HS.out.res).1).trans HS.out.res
      have gK := (hb.block _ (Array.getElem?_eq_some_iff.1 HS.out.okc).1).trans HS.out.okc
      have gR := (hb.block _ (Array.getElem?_eq_some_iff.1 HR.out).1).trans HR.out
      have kR2 : ∀ j, w2.cell? ⟨w.heap.size + 1 + 1, j, none⟩ = (#[.int .i64 r.freq, .int .i64 r.interval, .int .i64 r.count, .int .i64 r.until_, .slice mo mn mc, .slice do_ dn dc, .slice yo yn yc, .slice po pn pc, .int .i64 r.start] : Array Value)[j]? := fun j => cell_of_row _ _ _ _ _ _ gR
      have kZ2 : ∀ j, w2.cell? ⟨w.heap.size, j, none⟩ = zeroC[j]? := fun j => cell_of_row _ _ _ _ _ _ gZ
      have kK2 : w2.cell? ⟨w.heap.size + 1, 0, none⟩ = some (.bool false) := by rw [cell_of_row _ _ _ _ _ _ gK]; rfl
      have fZ2 : ∀ j, w2.frozen? ⟨w.heap.size, j, none⟩ = false := fun j => frozen_of_row _ _ _ _ _ gZ
      have fK2 : w2.frozen? ⟨w.heap.size + 1, 0, none⟩ = false := frozen_of_row _ _ _ _ _ gK
      have HZ := Lib.hid (And.intro gZ (And.intro gK gR))
      clear hb gZ gK gR kR
      gi_wp2
      have hD9 : W.heap[w.heap.size + 9]? = some (.deferred (some [])) := by rw [← hsW]; exact HD.out
      have hB9 : ∀ k, k < W.heap.size → w2.heap[k]? = W.heap[k]? := fun k hk => HB.out.block k hk
      have F := Lib.hid (fillG_spec w2 w.heap.size (.int .i64 r.freq) (.int .i64 r.interval) (.int .i64 r.count) (.int .i64 r.until_) (.slice mo mn mc) (.slice do_ dn dc) (.slice yo yn yc) (.slice po pn pc) (.int .i64 r.start) true false HZ.out.1 HZ.out.2.1)
      refine leaves_marks (by simp) [w.heap.size + 9] (fillG w2 w.heap.size (.int .i64 r.freq) (.int .i64 r.interval) (.int .i64 r.count) (.int .i64 r.until_) (.slice mo mn mc) (.slice do_ dn dc) (.slice yo yn yc) (.slice po pn pc) (.int .i64 r.start) true) (by simp) (fun D hd => ?_) (fun W' k1 k2 k3 k4 k5 => ⟨_, read_results _ W' w.heap.size (w.heap.size + 1) (#[.int .i64 r.freq, .int .i64 r.interval, .int .i64 r.count, .int .i64 r.until_, .slice mo mn mc, .slice do_ dn dc, .slice yo yn yc, .slice po pn pc, .int .i64 r.start]) true rfl rfl ?_ rfl ?_, (.inl ⟨r, [.int .i64 r.freq, .int .i64 r.interval, .int .i64 r.count, .int .i64 r.until_, .slice mo mn mc, .slice do_ dn dc, .slice yo yn yc, .slice po pn pc, .int .i64 r.start], hr, HM.out, HX.out, rfl, ?_, HOK.out.few, ?_⟩)⟩)
      · rw [List.mem_singleton.1 hd, F.out.2.2.1 _ (by omega) (by omega), hB9 _ (Array.getElem?_eq_some_iff.1 hD9).1]
        exact hD9
      · rw [k1 _ (by rw [List.mem_singleton]; omega)]
        exact F.out.1
      · rw [k1 _ (by rw [List.mem_singleton]; omega)]
        exact F.out.2.1
      · have kk : ∀ k, w.heap.size + 11 ≤ k → k < W.heap.size → W'.heap[k]? = W.heap[k]? := fun k h1 h2 => by
          rw [k1 _ (by rw [List.mem_singleton]; omega), F.out.2.2.1 _ (by omega) (by omega)]
          exact hB9 k h2
        exact rel_of HOK.out (own_keep HO.out.1 kk) (own_keep HO.out.2.1 kk) (own_keep HO.out.2.2.1 kk) (own_keep HO.out.2.2.2 kk)
      · have hf := F.out
        have hb := HB.out
        have hw := HS.out.bel
        refine ⟨k2.trans (hf.2.2.2.1.trans (hb.os.trans hw.os)), k3.trans (hf.2.2.2.2.1.trans (hb.tape.trans hw.tape)), k4.trans (hf.2.2.2.2.2.1.trans (hb.output.trans hw.output)), ?_, fun k hk => ?_⟩
        · have h1 := hf.2.2.2.2.2.2
          have h2 := hb.size
          have h3 := hw.size
          omega
        · rw [k1 _ (by rw [List.mem_singleton]; omega), hf.2.2.1 _ (by omega) (by omega), hB9 _ (by have := hw.size; omega)]
          exact hw.block k hk
  case stop =>
    intro W hx hD hl
    have HX := Lib.hid hx
    clear hx
    gi_wp2
    refine leaves_marks (by simp) [WS.heap.size] W (by simp) (fun D hd => by rw [List.mem_singleton.1 hd]; exact hD) (fun W' k1 k2 k3 k4 k5 => ⟨_, read_results _ W' w.heap.size (w.heap.size + 1) zeroC false rfl rfl ?_ rfl ?_, .inr ⟨fun r hr => absurd hr (HX.out.no r), rfl, ?_⟩⟩)
    · rw [k1 _ (by rw [List.mem_singleton]; omega)]
      exact HX.out.res
    · rw [k1 _ (by rw [List.mem_singleton]; omega)]
      exact HX.out.okc
    · exact HX.out.bel.trans ⟨k2, k3, k4, k5, fun k hk => k1 k (by rw [List.mem_singleton]; omega)⟩
theorem read_any (s : ByteArray) (w : World) (hL : Laid w) (hE : Errs w) (hs : s.size ≤ 9999) :
    Calls Tryz.prog 8 #[.string s] w fun e w' =>
      (∃ (r : RuleD) (cs : List Value), readL (splitB 59 s) ruleB = some r ∧ mayR r ∧ toB (textR shortT r) = s ∧ e = .returned (.tuple #[.agg cs.toArray, .bool true]) ∧ rRule w' cs r ∧ fewR r ∧ Below w.heap.size w w') ∨
      ((∀ r, readL (splitB 59 s) ruleB = some r → mayR r → toB (textR shortT r) ≠ s) ∧ e = .returned (.tuple #[.agg zeroC, .bool false]) ∧ Below w.heap.size w w') := callsIn_wide.1 (read_in s w hL hE hs)
end Go.Proofs.YtcleicjgeflbnaaGreatDoor
