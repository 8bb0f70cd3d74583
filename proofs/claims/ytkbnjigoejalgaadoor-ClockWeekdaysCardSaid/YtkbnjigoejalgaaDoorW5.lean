/- The walk of ReadWeekdays. Conditions: at most a thousand bytes; the table of blanks lies in memory. -/
import Derived.RangeFuncLeaves
import Derived.Shelf.RegionOpen
import Derived.Test.YtkbnjigoejalgaaDoorW4
namespace Go.Proofs.YtkbnjigoejalgaaDoor
open Go.RowKit Go.ChangeShapes Go.WideShapes Go.Deep
attribute [local go_sem] Oper.semAt_some

def textL (m : Nat) : List UInt8 := if selL m 7 = [] then [45] else Lib.join (selL m 7) [44]
theorem Tab.later' {w w' : World} (h : Tab w) (h0 : 0 < w.heap.size) (hb : Below w.heap.size w w') : Tab w' := fun c hc => (hb.cell h0).trans (h c hc)
theorem Tab.pos {w : World} (h : Tab w) : 0 < w.heap.size := World.block_lt_of_cell? w ⟨0, 0, none⟩ (h 0 (by decide))
abbrev nmsC : Array Value := (nms.map fun l => Value.string ⟨l.toArray⟩).toArray

/-- What lies in memory while ReadWeekdays goes on: its set, the names, the marks of its inner loops. -/
structure St (w : World) (Ds : List Nat) (v : Nat) (W : World) : Prop where
  set : W.heap[w.heap.size]? = some (.cells #[.int .i64 (v : Nat)] 3 (0, 0))
  names : W.heap[w.heap.size + 1]? = some (.cells nmsC 9 (0, 0))
  nd : Ds.Nodup
  marks : ∀ D ∈ Ds, w.heap.size + 1 < D ∧ W.heap[D]? = some (.deferred (some []))
  below : Below w.heap.size w W
theorem St.turned {w W W' : World} {Ds : List Nat} {v B c : Nat} (h : St w Ds v W) (ht : Turned B c W W') (hc : w.heap.size + 1 < c) (hB : c < B) (hD : ∀ D ∈ Ds, D < c) : St w Ds v W' :=
  ⟨(ht.block _ (by omega) (by omega)).trans h.set, (ht.block _ (by omega) (by omega)).trans h.names, h.nd, fun D hd => ⟨(h.marks D hd).1, (ht.block _ (by have := hD D hd; omega) (by have := hD D hd; omega)).trans (h.marks D hd).2⟩,
    h.below.trans ⟨ht.os, ht.tape, ht.output, ht.size, fun k hk => ht.block k (by omega) (by omega)⟩⟩
theorem St.alloc {w W : World} {Ds : List Nat} {v : Nat} (h : St w Ds v W) (o : Obj) : St w Ds v (W.alloc o) := by
  have k : ∀ {g : Nat} {o' : Obj}, W.heap[g]? = some o' → (W.alloc o).heap[g]? = some o' := fun hg => (Below.heap_alloc _ _ _ (Array.getElem?_eq_some_iff.1 hg).1).trans hg
  exact ⟨k h.set, k h.names, h.nd, fun D hd => ⟨(h.marks D hd).1, k (h.marks D hd).2⟩, h.below.alloc h.below.size o⟩
theorem St.store {w W : World} {Ds : List Nat} {v : Nat} (h : St w Ds v W) (u : Nat) : St w Ds u (W.setCell ⟨w.heap.size, 0, none⟩ (.int .i64 (u : Nat))) := by
  have k : ∀ {g : Nat} {o' : Obj}, w.heap.size < g → W.heap[g]? = some o' → (W.setCell ⟨w.heap.size, 0, none⟩ (.int .i64 (u : Nat))).heap[g]? = some o' := fun hl hg => (Below.heap_setCell _ _ _ _ (by simp only; omega)).trans hg
  exact ⟨heap_setCell_same _ _ _ _ _ _ h.set, k (by omega) h.names, h.nd, fun D hd => ⟨(h.marks D hd).1, k (by have := (h.marks D hd).1; omega) (h.marks D hd).2⟩, h.below.setCell (Nat.le_refl _) _⟩
theorem St.drew {w W : World} {Ds : List Nat} {v : Nat} (h : St w Ds v W) : St w Ds v W.drew := ⟨h.set, h.names, h.nd, h.marks, h.below.drew⟩
/-- The set within a day's round, behind some pieces. -/
def rdIn (s : ByteArray) (k : Nat) (pre : List ByteArray) : Nat := if nms.getD k [] ∈ pre.map (·.data.toList) then rdS (splitc s.data.toList) k ||| 2 ^ k else rdS (splitc s.data.toList) k
theorem rdIn_nil (s : ByteArray) (k : Nat) : rdIn s k [] = rdS (splitc s.data.toList) k := by simp [rdIn]
theorem rdIn_all (s : ByteArray) (k : Nat) : rdIn s k (splitB s) = rdS (splitc s.data.toList) (k + 1) := by
  have : (splitB s).map (·.data.toList) = (splitc s.data.toList) := by
    rw [splitB, List.map_map, show ((fun x : ByteArray => x.data.toList) ∘ toB) = id from funext fun l => by simp [toB], List.map_id]
  rw [rdIn, this, rdS]
theorem rdIn_hit (s : ByteArray) (k : Nat) (pre : List ByteArray) (x : ByteArray) (h : x = toB (nms.getD k [])) : rdIn s k (pre ++ [x]) = rdIn s k pre ||| 2 ^ k := by
  have h1 : nms.getD k [] ∈ (pre ++ [x]).map (·.data.toList) := by rw [h]; simp [toB]
  rw [rdIn, if_pos h1, rdIn]
  split
  · rw [Nat.or_assoc, Nat.or_self]
  · rfl
theorem rdIn_miss (s : ByteArray) (k : Nat) (pre : List ByteArray) (x : ByteArray) (h : ¬ x = toB (nms.getD k [])) : rdIn s k (pre ++ [x]) = rdIn s k pre := by
  have h1 : ¬ nms.getD k [] = x.data.toList := fun e => h (by rw [e, toB_data])
  have h2 : nms.getD k [] ∈ (pre ++ [x]).map (·.data.toList) ↔ nms.getD k [] ∈ pre.map (·.data.toList) := by
    rw [List.map_append, List.mem_append]
    exact ⟨fun hh => hh.elim id (fun hx => absurd (List.mem_singleton.1 hx) h1), .inl⟩
  by_cases hm : nms.getD k [] ∈ pre.map (·.data.toList)
  · rw [rdIn, if_pos (h2.2 hm), rdIn, if_pos hm]
  · rw [rdIn, if_neg (fun e => hm (h2.1 e)), rdIn, if_neg hm]
theorem rdIn_lt (s : ByteArray) (k : Nat) (hk : k < 7) (pre : List ByteArray) : rdIn s k pre < 128 := by
  have h1 := rdS_lt (splitc s.data.toList) k (by omega)
  have h2 := or_bit k _ hk h1
  have h3 : 2 ^ (k + 1) ≤ 2 ^ 7 := Nat.pow_le_pow_right (by decide) (by omega)
  have h4 : 2 ^ k ≤ 2 ^ 7 := Nat.pow_le_pow_right (by decide) (by omega)
  rw [rdIn]
  split <;> omega

set_option maxRecDepth 100000 in
set_option maxHeartbeats 8000000 in
theorem readWeekdays_in (s : ByteArray) (hs : s.size ≤ 1000) (w : World) (hT : Tab w) (m : Nat) (hmr : m = rdS (splitc s.data.toList) 7) (b : Bool) (hb : b = (textL m == s.data.toList)) :
    CallsIn Fence.wide 5 Tryd.prog 7 #[.string s] w fun e w' => e = .returned (.tuple #[.int .i64 ((if b then m else 0 : Nat) : Int), .bool b]) ∧ Below w.heap.size w w' := by
  have h0 := hT.pos
  have C := Lib.hid (Fields_any (w.alloc (.cells #[.int .i64 0] 3)) (hT.later' h0 ((Below.refl _ _).alloc (Nat.le_refl _) _)))
  have HT := Lib.hid hT; have HMR := Lib.hid hmr; have HBB := Lib.hid hb
  clear hT hmr hb
  refine callsIn_of_wp_marks Tryd.func7 rfl trivial ?_ rfl
  simp only [Tryd.ntmps7, List.size_toArray, List.length_cons, List.length_nil, Nat.reduceAdd, Nat.reduceSub, Array.replicate_succ, Array.replicate_zero, List.push_toArray, List.append_toArray, List.nil_append, List.cons_append]
  gi_wp2
  refine ⟨trivial, ?_⟩
  refine (callsIn_wide.2 C.out).mono ?_
  rintro e w1 ⟨rfl, rfl⟩
  gi_wp2
  refine wpIn_loop (fun a' wr => ∃ (k : Nat) (Ds : List Nat) (u5 u6 u13 u14 u15 u16 u17 u18 u27 : Value), k ≤ 7 ∧ St w Ds (rdS (splitc s.data.toList) k) wr ∧ a' = { tmps := #[.string s, undef, .int .i64 0, .bool false, .pointer (some ⟨w.heap.size, 0, none⟩), u5, u6, undef, undef, undef, .slice (some ⟨w.heap.size + 1, 0, none⟩) 7 7, .int .i64 7, .int .i64 (k : Nat), u13, u14, u15, u16, u17, u18, undef, undef, undef, undef, undef, undef, undef, undef, u27, undef, undef, undef, undef, undef, undef, undef, undef, undef], defers := Ds.map markOf }) (fun a' _ => 7 - (intOf (a'.tmps.getD 12 undef)).toNat) ?_ ?_
  · refine ⟨0, [], _, _, _, _, _, _, _, _, _, Nat.zero_le _, ⟨?_, ?_, List.nodup_nil, fun D hd => by simp at hd, ((Below.refl _ _).alloc (Nat.le_refl _) _).alloc (by simp) _⟩, rfl⟩
    · exact heap_alloc2_old w _ _
    · exact heap_alloc2_new w _ _
  · rintro a' wr ⟨k, Ds, u5, u6, u13, u14, u15, u16, u17, u18, u27, hk, hst, rfl⟩
    by_cases hlt : k < 7
    · have hlt' : (k : Int) < 7 := by omega
      have hcn : wr.cell? ⟨w.heap.size + 1, k, none⟩ = some (.string (toB (nms.getD k []))) := by
        rw [cell_of_row _ _ _ _ _ _ hst.names]
        have hkk : k = 0 ∨ k = 1 ∨ k = 2 ∨ k = 3 ∨ k = 4 ∨ k = 5 ∨ k = 6 := by omega
        rcases hkk with rfl | rfl | rfl | rfl | rfl | rfl | rfl <;> rfl
      obtain ⟨nm, hnm⟩ : ∃ nm, nm = toB (nms.getD k []) := ⟨_, rfl⟩
      rw [← hnm] at hcn
      have HNM := Lib.hid hnm
      have HS := Lib.hid hst
      have hsz : w.heap.size + 1 < wr.heap.size := (Array.getElem?_eq_some_iff.1 hst.names).1
      clear hst hnm
      gi_wp2
      refine ⟨trivial, ?_⟩
      refine (callsIn_wide.2 (SplitSeq_any s _)).mono ?_
      rintro e w1 ⟨rfl, rfl⟩
      have hszW : (splitW s ((wr.alloc (.cells #[.int .i64 (k : Nat)] 3)).alloc (.cells #[.string nm] 9))).heap.size = wr.heap.size + 5 := by simp [splitW]
      have hW2 : ∀ (o1 o2 : Obj), ((wr.alloc o1).alloc o2).heap.size = wr.heap.size + 2 := fun _ _ => by simp
      have gi : (splitW s ((wr.alloc (.cells #[.int .i64 (k : Nat)] 3)).alloc (.cells #[.string nm] 9))).heap[wr.heap.size]? = some (.cells #[.int .i64 (k : Nat)] 3 (0, 0)) := by
        unfold splitW
        rw [Below.heap_alloc _ _ _ (by simp only [World.size_alloc]; omega), Below.heap_alloc _ _ _ (by simp only [World.size_alloc]; omega), Below.heap_alloc _ _ _ (by simp only [World.size_alloc]; omega)]
        exact heap_alloc2_old _ _ _
      have gn : (splitW s ((wr.alloc (.cells #[.int .i64 (k : Nat)] 3)).alloc (.cells #[.string nm] 9))).heap[wr.heap.size + 1]? = some (.cells #[.string nm] 9 (0, 0)) := by
        unfold splitW
        rw [Below.heap_alloc _ _ _ (by simp only [World.size_alloc]; omega), Below.heap_alloc _ _ _ (by simp), Below.heap_alloc _ _ _ (by simp only [World.size_alloc]; omega)]
        exact heap_alloc2_new _ _ _
      have gs0 : ∀ W : World, (splitW s W).heap[W.heap.size]? = some (.cells #[.string s] 9 (0, 0)) := fun W => by
        unfold splitW
        rw [Below.heap_alloc _ _ _ (by simp only [World.size_alloc]; omega)]
        exact heap_alloc2_old _ _ _
      have gs1 : ∀ W : World, (splitW s W).heap[W.heap.size + 1]? = some (.cells #[.string ⟨#[44]⟩] 9 (0, 0)) := fun W => by
        unfold splitW
        rw [Below.heap_alloc _ _ _ (by simp only [World.size_alloc]; omega)]
        exact heap_alloc2_new _ _ _
      have gs2 : ∀ W : World, (splitW s W).heap[W.heap.size + 2]? = some (.cells #[.int .i64 0] 3 (0, 0)) := fun W => by
        unfold splitW
        have := heap_alloc_new ((W.alloc (.cells #[.string s] 9)).alloc (.cells #[.string ⟨#[44]⟩] 9)) (.cells #[.int .i64 0] 3)
        simpa using this
      have gst : St w Ds (rdS (splitc s.data.toList) k) (splitW s ((wr.alloc (.cells #[.int .i64 (k : Nat)] 3)).alloc (.cells #[.string nm] 9))) := ((((HS.out.alloc _).alloc _).alloc _).alloc _).alloc _
      have gD : ∀ D ∈ Ds, D < wr.heap.size := fun D hd => (Array.getElem?_eq_some_iff.1 (HS.out.marks D hd).2).1
      have HG := Lib.hid (And.intro gi (And.intro gn (And.intro gst gD)))
      have HQ := Lib.hid (And.intro gs0 (And.intro gs1 gs2))
      clear gi gn gst gD gs0 gs1 gs2 hcn
      obtain ⟨WS, hWS⟩ : ∃ WS, WS = splitW s ((wr.alloc (.cells #[.int .i64 (k : Nat)] 3)).alloc (.cells #[.string nm] 9)) := ⟨_, rfl⟩
      rw [← hWS] at HG hszW
      rw [← hWS]
      have HWS := Lib.hid hWS
      clear hWS
      gi_wp2
      refine range_box (n := 5) (wr.heap.size + 2) rfl (enters_of Tryd.func27 (by kernel_rfl) rfl) (encs := fun x : ByteArray => #[.string x]) (fun _ => rfl) (splitB s)
        (fun pre W => St w Ds (rdIn s k pre) W ∧ W.heap[wr.heap.size]? = some (.cells #[.int .i64 (k : Nat)] 3 (0, 0)) ∧ W.heap[wr.heap.size + 1]? = some (.cells #[.string nm] 9 (0, 0)))
        (by omega) ?turned ?start (fun x => { tmps := #[.string s, undef, .int .i64 0, .bool false, .pointer (some ⟨w.heap.size, 0, none⟩), .pointer (some ⟨wr.heap.size, 0, none⟩), .pointer (some ⟨wr.heap.size + 1, 0, none⟩), .string x, undef, undef, .slice (some ⟨w.heap.size + 1, 0, none⟩) 7 7, .int .i64 7, .int .i64 (k : Nat), .bool true, .int .i64 (k : Nat), .pointer (some ⟨w.heap.size + 1, k, none⟩), .string nm, .string s, .func (.func 27) #[] #[.pointer (some ⟨wr.heap.size + 2 + 1, 0, none⟩), .pointer (some ⟨wr.heap.size + 2, 0, none⟩), .pointer (some ⟨wr.heap.size + 2 + 2, 0, none⟩)], .string x, undef, undef, undef, undef, undef, undef, undef, u27, undef, undef, undef, undef, undef, undef, undef, undef, undef], defers := [] }) ?assign ?body ?seq (by omega) ?done
      case turned =>
        rintro pre W W' ht ⟨h1, h2, h3⟩
        exact ⟨h1.turned ht (by omega) (by omega) (fun D hd => by have := HG.out.2.2.2 D hd; omega), (ht.block _ (by omega) (by omega)).trans h2, (ht.block _ (by omega) (by omega)).trans h3⟩
      case start =>
        rw [rdIn_nil]
        exact ⟨HG.out.2.2.1, HG.out.1, HG.out.2.1⟩
      case assign =>
        intro l x W K hK
        gi_wp2
        exact hK
      case seq =>
        intro l J W1 h1 hJc hY hj
        have e2 : (wr.alloc (.cells #[.int .i64 (k : Nat)] 3)).heap.size + 1 = wr.heap.size + 2 := by simp
        have hq := HQ.out
        have q0 := hq.1 ((wr.alloc (.cells #[.int .i64 (k : Nat)] 3)).alloc (.cells #[.string nm] 9))
        have q1 := hq.2.1 ((wr.alloc (.cells #[.int .i64 (k : Nat)] 3)).alloc (.cells #[.string nm] 9))
        have q2 := hq.2.2 ((wr.alloc (.cells #[.int .i64 (k : Nat)] 3)).alloc (.cells #[.string nm] 9))
        rw [← HWS.out, hW2] at q0 q1 q2
        exact split_in 4 l (wr.heap.size + 2) s J W1 hJc hY ((h1 _ (by omega)).trans q0) ((h1 _ (by omega)).trans q1) ((h1 _ (by omega)).trans q2) hs hj
      case body =>
        rintro l pre x W ⟨h1, h2, h3⟩
        have cn : W.cell? ⟨wr.heap.size + 1, 0, none⟩ = some (.string nm) := by rw [cell_of_row _ _ _ _ _ _ h3]; rfl
        by_cases hx : x = nm
        · have b1 : (x.toList == nm.toList) = true := by rw [hx]; simp
          have ci : W.cell? ⟨wr.heap.size, 0, none⟩ = some (.int .i64 (k : Nat)) := by rw [cell_of_row _ _ _ _ _ _ h2]; rfl
          have cs : W.cell? ⟨w.heap.size, 0, none⟩ = some (.int .i64 (rdIn s k pre : Nat)) := by rw [cell_of_row _ _ _ _ _ _ h1.set]; rfl
          have fs : W.frozen? ⟨w.heap.size, 0, none⟩ = false := frozen_of_row _ _ _ _ _ h1.set
          have H123 := Lib.hid (And.intro h1 (And.intro h2 h3))
          have HX := Lib.hid hx
          have hnew := rdIn_hit s k pre x (by rw [← HNM.out]; exact hx)
          have hl8 := rdIn_lt s k hlt pre
          have hbit : ∀ v : Nat, v < 128 → bits BinOp.or IntKind.i64 (v : Int) (2 ^ k : Nat) = ((v ||| 2 ^ k : Nat) : Int) := by
            have hkk : k = 0 ∨ k = 1 ∨ k = 2 ∨ k = 3 ∨ k = 4 ∨ k = 5 ∨ k = 6 := by omega
            rcases hkk with rfl | rfl | rfl | rfl | rfl | rfl | rfl
            · exact or0
            · exact or1
            · exact or2
            · exact or3
            · exact or4
            · exact or5
            · exact or6
          have hb8 := hbit _ hl8
          have hwp : (IntKind.i64).wrap (2 ^ k) = ((2 ^ k : Nat) : Int) := by
            have hkk : k = 0 ∨ k = 1 ∨ k = 2 ∨ k = 3 ∨ k = 4 ∨ k = 5 ∨ k = 6 := by omega
            rcases hkk with rfl | rfl | rfl | rfl | rfl | rfl | rfl <;> decide
          have HV := Lib.hid (show bits BinOp.or IntKind.i64 (rdIn s k pre : Nat) ((IntKind.i64).wrap (2 ^ k)) = ((rdIn s k (pre ++ [x]) : Nat) : Int) by rw [hwp, hb8, hnew])
          have hmix : Tryd.prog.follows .mixedOrders = true := by kernel_rfl
          clear h1 h2 h3 hx hbit hl8 hnew hb8 hwp
          gi_wp2
          gi_region_with_o (fail)
          all_goals
            rw [HV.out]
            refine ⟨fun j hj => Below.heap_setCell _ _ _ _ (by simp only; omega), (H123.out.1.store _).drew, (Below.heap_setCell _ _ _ _ (by simp only; omega)).trans H123.out.2.1, (Below.heap_setCell _ _ _ _ (by simp only; omega)).trans H123.out.2.2⟩
        · have b1 : (x.toList == nm.toList) = false := by
            rw [beq_eq_false_iff_ne]
            intro e
            rw [ByteArray.toList_eq, ByteArray.toList_eq] at e
            exact hx (by rw [← toB_data x, ← toB_data nm, e])
          have H123 := Lib.hid (And.intro h1 (And.intro h2 h3))
          have HX := Lib.hid hx
          clear h1 h2 h3 hx
          gi_wp2
          refine ⟨fun _ _ => rfl, ?_, H123.out.2.1, H123.out.2.2⟩
          rw [rdIn_miss s k pre x (by rw [← HNM.out]; exact HX.out)]
          exact H123.out.1
      case done =>
        rintro W ⟨h1, h2, h3⟩ hD hl
        gi_wp2
        rw [rdIn_all] at h1
        refine ⟨⟨k + 1, WS.heap.size :: Ds, _, _, _, _, _, _, _, _, _, by omega, ⟨h1.set, h1.names, List.nodup_cons.2 ⟨fun hm => by have := HG.out.2.2.2 _ hm; omega, h1.nd⟩, fun D hd => ?_, h1.below⟩, rfl⟩, ?_⟩
        · rcases List.mem_cons.1 hd with rfl | hd
          · exact ⟨by omega, hD⟩
          · exact h1.marks D hd
        · simp [intOf]; omega
    · obtain rfl : k = 7 := by omega
      rw [← HMR.out] at hst
      have cs : wr.cell? ⟨w.heap.size, 0, none⟩ = some (.int .i64 (m : Nat)) := by rw [cell_of_row _ _ _ _ _ _ hst.set]; rfl
      have hm : m < 128 := by rw [HMR.out]; exact rdS_lt (splitc s.data.toList) 7 (Nat.le_refl _)
      have D := Lib.hid (weekdays_yes m hm wr (HT.out.later' h0 hst.below) (textL m) rfl)
      have HS := Lib.hid hst
      have hlt2 := (Array.getElem?_eq_some_iff.1 hst.set).1
      clear hst hk hlt hm
      gi_wp2
      refine ⟨trivial, ?_⟩
      refine (callsIn_wide.2 D.out).mono ?_
      rintro e w2 ⟨rfl, hb2⟩
      have cs2 : w2.cell? ⟨w.heap.size, 0, none⟩ = some (.int .i64 (m : Nat)) := (hb2.cell (p := ⟨w.heap.size, 0, none⟩) hlt2).trans cs
      have HB2 := Lib.hid (below_call HS.out.below hb2)
      have HM := Lib.hid (fun D hd => ((hb2.block D (Array.getElem?_eq_some_iff.1 (HS.out.marks D hd).2).1).trans (HS.out.marks D hd).2))
      have HND := Lib.hid HS.out.nd
      have HDL := Lib.hid (fun D hd => (HS.out.marks D hd).1)
      clear hb2 cs
      have hbs : (textL m == s.toList) = b := by rw [ByteArray.toList_eq]; exact HBB.out.symm
      cases b with
      | true =>
        gi_wp2
        refine leaves_marks (by simp) Ds w2 HND.out HM.out (fun W' k1 k2 k3 k4 k5 => ⟨_, results_tmp2 rfl _ _ _, rfl, ?_⟩)
        exact HB2.out.trans ⟨k2, k3, k4, k5, fun k hk => k1 k (fun hm => by have := HDL.out k hm; omega)⟩
      | false =>
        gi_wp2
        refine leaves_marks (by simp) Ds w2 HND.out HM.out (fun W' k1 k2 k3 k4 k5 => ⟨_, results_tmp2 rfl _ _ _, rfl, ?_⟩)
        exact HB2.out.trans ⟨k2, k3, k4, k5, fun k hk => k1 k (fun hm => by have := HDL.out k hm; omega)⟩
end Go.Proofs.YtkbnjigoejalgaaDoor
