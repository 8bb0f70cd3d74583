/- (*strings.Replacer).build at the two signs. -/
import Derived.Test.YtcleicjgeflbnaaGreatDoorS1
import Derived.Test.YtcleicjgeflbnaaGreatDoorP1
import Derived.LoopN
import Derived.Deep.WholeRow
import Derived.Lib.ConvBytes
import Derived.WalkSpells
import Derived.WalkLawsBesides
namespace Go.Proofs.YtcleicjgeflbnaaGreatDoor
open Go.RowKit
set_option linter.all false

noncomputable def bsrCells (v : Value) : Array Value := (Tryz.zeroCells185.toList.set 256 v).toArray
theorem alloc185 (w : World) : (Instr.alloc 185 true undef).run Tryz.prog w = .ok (.pointer (some ⟨w.heap.size, 0, none⟩)) (w.alloc (.cells Tryz.zeroCells185 185)) := by kernel_rfl
theorem zero_size : Tryz.zeroCells185.size = 257 := by kernel_rfl
theorem bsr_size (v : Value) : (bsrCells v).size = 257 := by unfold bsrCells; rw [List.size_toArray, List.length_set, Array.length_toList, zero_size]
theorem info185 : (Tryz.prog.info? 185).map (·.size) = some 257 := by kernel_rfl
theorem bsr_one (a : Option Addr) (n c : Nat) : (bsrCells (.slice a n c)).all (·.oneCell') = true := by kernel_rfl
theorem store185 (W : World) (a : Option Addr) (n c : Nat) : (storeCells ⟨W.heap.size, 0, none⟩ (Tryz.zeroCells185.toList.set 256 (.slice a n c))).run Tryz.prog (W.alloc (.cells Tryz.zeroCells185 185)) = .ok () (W.alloc (.cells (bsrCells (.slice a n c)) 185)) := by
  have h := Go.run_storeCells_new (P := Tryz.prog) W 185 Tryz.zeroCells185 (bsrCells (.slice a n c)) (by rw [bsr_size]; exact info185) (by rw [bsr_size, zero_size]) (bsr_one a n c)
  exact h
theorem bsr_nil (a : Option Addr) (n c : Nat) (j : Nat) (hj : j < 256) : (bsrCells (.slice a n c))[j]? = some (.slice none 0 0) := by
  have h : ∀ j : Fin 256, (Tryz.zeroCells185.toList)[j.val]? = some (.slice none 0 0) := by
    intro j
    have : ((Tryz.zeroCells185.toList.take 256).all fun v => match v with | .slice none 0 0 => true | _ => false) = true := by kernel_rfl
    have hl : j.val < Tryz.zeroCells185.toList.length := by rw [Array.length_toList, zero_size]; omega
    have hm := List.all_eq_true.1 this _ (List.mem_take_iff_getElem.2 ⟨j.val, by omega, rfl⟩)
    rw [List.getElem?_eq_getElem hl]
    revert hm
    split <;> simp_all
  unfold bsrCells
  rw [List.getElem?_toArray, List.getElem?_set_ne (by omega)]
  exact h ⟨j, hj⟩
theorem bsr_last (a : Option Addr) (n c : Nat) : (bsrCells (.slice a n c))[256]? = some (.slice a n c) := by
  unfold bsrCells
  rw [List.getElem?_toArray, List.getElem?_set_self (by rw [Array.length_toList, zero_size]; omega)]

/-- What build's two own blocks hold: the row of signs at n0, the struct behind it. -/
structure BS (n0 : Nat) (W : World) (v45 v58 v256 s0 s1 : Value) : Prop where
  sz : n0 + 1 < W.heap.size
  rep : ∀ j, j < 256 → W.cell? ⟨n0 + 1, j, none⟩ = some (if j = 45 then v45 else if j = 58 then v58 else .slice none 0 0)
  row : W.cell? ⟨n0 + 1, 256, none⟩ = some v256
  fr : ∀ j, W.frozen? ⟨n0 + 1, j, none⟩ = false
  r0 : W.cell? ⟨n0, 0, none⟩ = some s0
  r1 : W.cell? ⟨n0, 1, none⟩ = some s1
  fr0 : ∀ j, W.frozen? ⟨n0, j, none⟩ = false
theorem BS.later {n0 : Nat} {W W' : World} {a b c d e : Value} (h : BS n0 W a b c d e) (hb : Below W.heap.size W W') : BS n0 W' a b c d e :=
  have z := h.sz
  ⟨Nat.lt_of_lt_of_le z hb.size, fun j hj => (hb.cell z).trans (h.rep j hj), (hb.cell z).trans h.row, fun j => (hb.frozen z).trans (h.fr j), (hb.cell (by simp only; omega)).trans h.r0, (hb.cell (by simp only; omega)).trans h.r1, fun j => (hb.frozen (by simp only; omega)).trans (h.fr0 j)⟩
theorem BS.alloc {n0 : Nat} {W : World} {a b c d e : Value} (h : BS n0 W a b c d e) (o : Obj) : BS n0 (W.alloc o) a b c d e := h.later ((Below.refl _ _).alloc (Nat.le_refl _) _)
theorem setCell_size (W : World) (a : Addr) (v : Value) : (W.setCell a v).heap.size = W.heap.size := by simp [World.setCell]
theorem BS.r0' {n0 : Nat} {W : World} {a b c d e : Value} (h : BS n0 W a b c d e) (v : Value) : BS n0 (W.setCell ⟨n0, 0, none⟩ v) a b c v e :=
  ⟨by rw [setCell_size]; exact h.sz, fun j hj => (World.cell?_setCell_other _ _ _ _ (by simp)).trans (h.rep j hj), (World.cell?_setCell_other _ _ _ _ (by simp)).trans h.row, fun j => by rw [World.frozen?_setCell]; exact h.fr j, World.cell?_setCell_same _ _ _ h.r0, (World.cell?_setCell_other _ _ _ _ (by simp)).trans h.r1, fun j => by rw [World.frozen?_setCell]; exact h.fr0 j⟩
theorem BS.r1' {n0 : Nat} {W : World} {a b c d e : Value} (h : BS n0 W a b c d e) (v : Value) : BS n0 (W.setCell ⟨n0, 1, none⟩ v) a b c d v :=
  ⟨by rw [setCell_size]; exact h.sz, fun j hj => (World.cell?_setCell_other _ _ _ _ (by simp)).trans (h.rep j hj), (World.cell?_setCell_other _ _ _ _ (by simp)).trans h.row, fun j => by rw [World.frozen?_setCell]; exact h.fr j, (World.cell?_setCell_other _ _ _ _ (by simp)).trans h.r0, World.cell?_setCell_same _ _ _ h.r1, fun j => by rw [World.frozen?_setCell]; exact h.fr0 j⟩
theorem BS.row' {n0 : Nat} {W : World} {a b c d e : Value} (h : BS n0 W a b c d e) (v : Value) : BS n0 (W.setCell ⟨n0 + 1, 256, none⟩ v) a b v d e :=
  ⟨by rw [setCell_size]; exact h.sz, fun j hj => (World.cell?_setCell_other _ _ _ _ (by simp only [ne_eq, Addr.mk.injEq]; omega)).trans (h.rep j hj), World.cell?_setCell_same _ _ _ h.row, fun j => by rw [World.frozen?_setCell]; exact h.fr j, (World.cell?_setCell_other _ _ _ _ (by simp)).trans h.r0, (World.cell?_setCell_other _ _ _ _ (by simp)).trans h.r1, fun j => by rw [World.frozen?_setCell]; exact h.fr0 j⟩
theorem BS.v58' {n0 : Nat} {W : World} {a b c d e : Value} (h : BS n0 W a b c d e) (v : Value) : BS n0 (W.setCell ⟨n0 + 1, 58, none⟩ v) a v c d e :=
  ⟨by rw [setCell_size]; exact h.sz, fun j hj => by
    by_cases e : j = 58
    · subst e; exact World.cell?_setCell_same _ _ _ (h.rep 58 (by omega))
    · rw [World.cell?_setCell_other _ _ _ _ (by simp only [ne_eq, Addr.mk.injEq]; omega), h.rep j hj, if_neg e, if_neg e], (World.cell?_setCell_other _ _ _ _ (by simp)).trans h.row, fun j => by rw [World.frozen?_setCell]; exact h.fr j, (World.cell?_setCell_other _ _ _ _ (by simp)).trans h.r0, (World.cell?_setCell_other _ _ _ _ (by simp)).trans h.r1, fun j => by rw [World.frozen?_setCell]; exact h.fr0 j⟩
theorem BS.v45' {n0 : Nat} {W : World} {a b c d e : Value} (h : BS n0 W a b c d e) (v : Value) : BS n0 (W.setCell ⟨n0 + 1, 45, none⟩ v) v b c d e :=
  ⟨by rw [setCell_size]; exact h.sz, fun j hj => by
    by_cases e : j = 45
    · subst e; exact World.cell?_setCell_same _ _ _ (h.rep 45 (by omega))
    · rw [World.cell?_setCell_other _ _ _ _ (by simp only [ne_eq, Addr.mk.injEq]; omega), h.rep j hj, if_neg e, if_neg e], (World.cell?_setCell_other _ _ _ _ (by simp)).trans h.row, fun j => by rw [World.frozen?_setCell]; exact h.fr j, (World.cell?_setCell_other _ _ _ _ (by simp)).trans h.r0, (World.cell?_setCell_other _ _ _ _ (by simp)).trans h.r1, fun j => by rw [World.frozen?_setCell]; exact h.fr0 j⟩

theorem belowS {w0 W : World} (a : Addr) (v : Value) (h : Below w0.heap.size w0 W) (ha : w0.heap.size ≤ a.block) : Below w0.heap.size w0 (W.setCell a v) := h.setCell ha v
theorem belowA {w0 W : World} (o : Obj) (h : Below w0.heap.size w0 W) : Below w0.heap.size w0 (W.alloc o) := h.alloc h.size o

/-- A string's bytes as a new row: the world behind it under a name of its own. -/
theorem wpList_bytes {P : Program} (w : World) {ops : Array Oper} {rest : List Oper} {o : Oper} {a : Act} {Q : Exit → Act → World → Prop} (hg : o.guard = none) (x : Operand) (src dst e : TypeId) (hop : o.op = .convert src dst x)
    {u : TypeDesc} (hs : P.underlying src = some u) (hd : P.underlying dst = some (.slice e)) (he : P.underlying e = some (.int .u8)) (s : ByteArray) (hx : a.eval x = .string s)
    (hK : ∀ cap w2, Below w.heap.size w w2 → wpList P ops Q rest (a.put o.dst (.slice (some ⟨w.heap.size, 0, none⟩) s.size cap)) w2) : wpList P ops Q (o :: rest) a w := by
  refine wpList_plain hg fun K hK' => ?_
  have hrun := Lib.run_convert_string_bytes (P := P) w src dst e s hs hd he
  unfold Oper.wp
  simp [execOp, hop, hx, hrun, Result.andThen]
  refine hK' _ _ (hK _ _ ⟨rfl, rfl, rfl, by rw [Lib.bytesWorld_size]; omega, fun j hj => Lib.bytesWorld_at_old w e s j hj⟩)

set_option maxRecDepth 100000 in
set_option maxHeartbeats 8000000 in
theorem build_any (b g c : Nat) (w : World) (h4 : w.cell? ⟨b, 4, none⟩ = some (.slice (some ⟨g, 0, none⟩) 4 c))
    (c0 : w.cell? ⟨g, 0, none⟩ = some (.string ⟨#[45]⟩)) (c1 : w.cell? ⟨g, 1, none⟩ = some (.string ⟨#[]⟩)) (c2 : w.cell? ⟨g, 2, none⟩ = some (.string ⟨#[58]⟩)) (c3 : w.cell? ⟨g, 3, none⟩ = some (.string ⟨#[]⟩)) :
    Calls Tryz.prog 107 #[.pointer (some ⟨b, 0, none⟩)] w fun e w' => (∃ (k1 k2 : Nat) (a1 a2 : Addr), BS w.heap.size w' (.slice (some a1) 0 k1) (.slice (some a2) 0 k2) (.slice (some ⟨w.heap.size, 0, none⟩) 2 2) (.string ⟨#[58]⟩) (.string ⟨#[45]⟩)) ∧ e = .returned (.iface 186 (.pointer (some ⟨w.heap.size + 1, 0, none⟩))) ∧ Below w.heap.size w w' := by
  have hmk : ∀ W, (Instr.makeSlice 49 (.int .i64 0) (.int .i64 2)).run Tryz.prog W = .ok (.slice (some ⟨W.heap.size, 0, none⟩) 0 2) (W.alloc (.cells #[.string ⟨#[]⟩, .string ⟨#[]⟩] 9)) := fun _ => by kernel_rfl
  have hst := store185 (w.alloc (.cells #[.string ⟨#[]⟩, .string ⟨#[]⟩] 9)) (some ⟨w.heap.size, 0, none⟩) 0 2
  rw [World.size_alloc] at hst
  go_enter Tryz.func107, Tryz.ntmps107
  go_wp2_with fail
  go_loop [4, 5] (fun s i => ∃ k : Nat, k ≤ 2 ∧ i = .int .i64 ((2 * k : Nat) : Int) ∧ s = .bool (k == 0)) (fun _ i => 5 - (intOf i).toNat)
  case atStart => exact ⟨0, by omega, rfl, rfl⟩
  case round =>
    obtain ⟨k, hk, rfl, rfl⟩ := hrel
    have hkk : k = 0 ∨ k = 1 ∨ k = 2 := by omega
    rcases hkk with rfl | rfl | rfl
    · go_wp2_with fail
      go_round
      case measure => simp [intOf]
      case rel => exact ⟨1, by omega, rfl, rfl⟩
    · go_wp2_with fail
      go_round
      case measure => simp [intOf]
      case rel => exact ⟨2, by omega, rfl, rfl⟩
    · go_wp2_with fail
      have hb1 : Below w.heap.size w ((w.alloc (Obj.cells #[.string ⟨#[]⟩, .string ⟨#[]⟩] 9)).alloc (Obj.cells (bsrCells (.slice (some ⟨w.heap.size, 0, none⟩) 0 2)) 185)) := ((Below.refl _ _).alloc (Nat.le_refl _) _).alloc (by simp) _
      have hF : BS w.heap.size ((w.alloc (Obj.cells #[.string ⟨#[]⟩, .string ⟨#[]⟩] 9)).alloc (Obj.cells (bsrCells (.slice (some ⟨w.heap.size, 0, none⟩) 0 2)) 185)) (.slice none 0 0) (.slice none 0 0) (.slice (some ⟨w.heap.size, 0, none⟩) 0 2) (.string ⟨#[]⟩) (.string ⟨#[]⟩) := by
        refine ⟨by simp, fun j hj => ?_, ?_, fun j => ?_, ?_, ?_, fun j => ?_⟩
        · rw [World.cell?_alloc_at _ _ _ _ (by simp), bsr_nil _ _ _ j hj]; simp
        · rw [World.cell?_alloc_at _ _ _ _ (by simp), bsr_last]
        · simp
        · simp
        · simp
        · simp
      generalize ((w.alloc (Obj.cells #[.string ⟨#[]⟩, .string ⟨#[]⟩] 9)).alloc (Obj.cells (bsrCells (.slice (some ⟨w.heap.size, 0, none⟩) 0 2)) 185)) = W1 at hb1 hF ⊢
      have C0 := Lib.hid c0; have C1 := Lib.hid c1; have C2 := Lib.hid c2; have C3 := Lib.hid c3
      have HF := Lib.hid hF; have HB1 := Lib.hid hb1
      clear hF hb1 hst h4 c0 c1 c2 c3
      have hF := HF.out; have hb1 := HB1.out
      have HF_W1 := Lib.hid hF; have HB_W1 := Lib.hid hb1
      have d0_W1 := (hb1.cell (World.block_lt_of_cell? w _ C0.out)).trans C0.out
      have d1_W1 := (hb1.cell (World.block_lt_of_cell? w _ C1.out)).trans C1.out
      have d2_W1 := (hb1.cell (World.block_lt_of_cell? w _ C2.out)).trans C2.out
      have d3_W1 := (hb1.cell (World.block_lt_of_cell? w _ C3.out)).trans C3.out
      have k45_W1 := hF.rep 45 (by omega)
      have k58_W1 := hF.rep 58 (by omega)
      have k256_W1 := hF.row
      have kf_W1 := hF.fr
      have kf0_W1 := hF.fr0
      have kr0_W1 := hF.r0
      have kr1_W1 := hF.r1
      rw [if_pos rfl] at k45_W1
      rw [if_neg (by omega), if_pos rfl] at k58_W1
      have hz1 := hF.sz
      have hzg : g < W1.heap.size := World.block_lt_of_cell? W1 _ d0_W1
      have zp0_W1 : w.heap.size < W1.heap.size := by omega
      have zp1_W1 : w.heap.size < W1.heap.size + 1 := by omega
      have zp2_W1 : w.heap.size < W1.heap.size + 2 := by omega
      have zp3_W1 : w.heap.size < W1.heap.size + 3 := by omega
      have zq0_W1 : w.heap.size + 1 < W1.heap.size := by omega
      have zq1_W1 : w.heap.size + 1 < W1.heap.size + 1 := by omega
      have zq2_W1 : w.heap.size + 1 < W1.heap.size + 2 := by omega
      have zq3_W1 : w.heap.size + 1 < W1.heap.size + 3 := by omega
      have zr0_W1 : g < W1.heap.size := by omega
      have zr1_W1 : g < W1.heap.size + 1 := by omega
      have zr2_W1 : g < W1.heap.size + 2 := by omega
      have zr3_W1 : g < W1.heap.size + 3 := by omega
      clear hF hb1 hz1 hzg
      have b58 : ({ data := #[58] } : ByteArray)[0].toNat = 58 := rfl
      have b45 : ({ data := #[45] } : ByteArray)[0].toNat = 45 := rfl
      have he : ∀ (W : World) (a : Option Addr) (l c : Nat), (binOp .eql 78 (.slice a l c) (.slice none 0 0)).run Tryz.prog W = .ok (.bool a.isNone) W := fun W a l c => by apply Lib.run_eql_slice_nil; exact Tryz.underlying78
      have hcv := fun (W : World) (x : Int) => run_convert_bytes_arg (P := Tryz.prog) (W.alloc (.cells #[.int .u8 x] 5)) 78 5 Tryz.underlying78 Tryz.underlying5 W.heap.size 0 1 1 [x] rfl (fun i hi => by
        rw [World.cell?_alloc_at _ _ _ _ rfl]
        have : i = 0 := by omega
        subst this; rfl) 9 Tryz.underlying9
      refine wp_loop_rounds 3 ?_
      rw [rounds_succ]
      go_wp2_with (refine wpList_bytes _ rfl (.tmp 127) 9 78 5 rfl Tryz.underlying9 Tryz.underlying78 Tryz.underlying5 ⟨#[]⟩ rfl ?_
                   intro k1 w2 hb2
                   have F_w2 := Lib.hid (((((HF_W1.out).r0' (.string (strOfNums [58]))).row' (.slice (some ⟨w.heap.size, 0, none⟩) 1 2)).alloc (.cells #[.int .u8 58] 5)).alloc (.cells #[.string (strOfNums [58])] 9) |>.later hb2)
                   have B_w2 := Lib.hid (Below.trans (belowA (.cells #[.string (strOfNums [58])] 9) (belowA (.cells #[.int .u8 58] 5) (belowS ⟨w.heap.size + 1, 256, none⟩ (.slice (some ⟨w.heap.size, 0, none⟩) 1 2) (belowS ⟨w.heap.size, 0, none⟩ (.string (strOfNums [58])) (HB_W1.out) (Nat.le_refl _)) (Nat.le_succ _)))) (hb2.mono (by rw [World.size_alloc, World.size_alloc, setCell_size, setCell_size]; omega)))
                   clear hb2
                   have hF := F_w2.out; have hb1 := B_w2.out
                   have HF_w2 := Lib.hid hF; have HB_w2 := Lib.hid hb1
                   have d0_w2 := (hb1.cell (World.block_lt_of_cell? w _ C0.out)).trans C0.out
                   have d1_w2 := (hb1.cell (World.block_lt_of_cell? w _ C1.out)).trans C1.out
                   have d2_w2 := (hb1.cell (World.block_lt_of_cell? w _ C2.out)).trans C2.out
                   have d3_w2 := (hb1.cell (World.block_lt_of_cell? w _ C3.out)).trans C3.out
                   have k45_w2 := hF.rep 45 (by omega)
                   have k58_w2 := hF.rep 58 (by omega)
                   have k256_w2 := hF.row
                   have kf_w2 := hF.fr
                   have kf0_w2 := hF.fr0
                   have kr0_w2 := hF.r0
                   have kr1_w2 := hF.r1
                   rw [if_pos rfl] at k45_w2
                   rw [if_neg (by omega), if_pos rfl] at k58_w2
                   have hz1 := hF.sz
                   have hzg : g < w2.heap.size := World.block_lt_of_cell? w2 _ d0_w2
                   have zp0_w2 : w.heap.size < w2.heap.size := by omega
                   have zp1_w2 : w.heap.size < w2.heap.size + 1 := by omega
                   have zp2_w2 : w.heap.size < w2.heap.size + 2 := by omega
                   have zp3_w2 : w.heap.size < w2.heap.size + 3 := by omega
                   have zq0_w2 : w.heap.size + 1 < w2.heap.size := by omega
                   have zq1_w2 : w.heap.size + 1 < w2.heap.size + 1 := by omega
                   have zq2_w2 : w.heap.size + 1 < w2.heap.size + 2 := by omega
                   have zq3_w2 : w.heap.size + 1 < w2.heap.size + 3 := by omega
                   have zr0_w2 : g < w2.heap.size := by omega
                   have zr1_w2 : g < w2.heap.size + 1 := by omega
                   have zr2_w2 : g < w2.heap.size + 2 := by omega
                   have zr3_w2 : g < w2.heap.size + 3 := by omega
                   clear hF hb1 hz1 hzg
                   skip)
      rw [rounds_succ]
      have hF3 := F_w2.out.v58' (.slice (some ⟨W1.heap.size + 1 + 1, 0, none⟩) 0 k1)
      have hB3 := belowS ⟨w.heap.size + 1, 58, none⟩ (.slice (some ⟨W1.heap.size + 1 + 1, 0, none⟩) 0 k1) B_w2.out (Nat.le_succ _)
      generalize w2.setCell ⟨w.heap.size + 1, 58, none⟩ (.slice (some ⟨W1.heap.size + 1 + 1, 0, none⟩) 0 k1) = W3 at hF3 hB3 ⊢
      have hF := hF3; have hb1 := hB3
      have HF_W3 := Lib.hid hF; have HB_W3 := Lib.hid hb1
      have d0_W3 := (hb1.cell (World.block_lt_of_cell? w _ C0.out)).trans C0.out
      have d1_W3 := (hb1.cell (World.block_lt_of_cell? w _ C1.out)).trans C1.out
      have d2_W3 := (hb1.cell (World.block_lt_of_cell? w _ C2.out)).trans C2.out
      have d3_W3 := (hb1.cell (World.block_lt_of_cell? w _ C3.out)).trans C3.out
      have k45_W3 := hF.rep 45 (by omega)
      have k58_W3 := hF.rep 58 (by omega)
      have k256_W3 := hF.row
      have kf_W3 := hF.fr
      have kf0_W3 := hF.fr0
      have kr0_W3 := hF.r0
      have kr1_W3 := hF.r1
      rw [if_pos rfl] at k45_W3
      rw [if_neg (by omega), if_pos rfl] at k58_W3
      have hz1 := hF.sz
      have hzg : g < W3.heap.size := World.block_lt_of_cell? W3 _ d0_W3
      have zp0_W3 : w.heap.size < W3.heap.size := by omega
      have zp1_W3 : w.heap.size < W3.heap.size + 1 := by omega
      have zp2_W3 : w.heap.size < W3.heap.size + 2 := by omega
      have zp3_W3 : w.heap.size < W3.heap.size + 3 := by omega
      have zq0_W3 : w.heap.size + 1 < W3.heap.size := by omega
      have zq1_W3 : w.heap.size + 1 < W3.heap.size + 1 := by omega
      have zq2_W3 : w.heap.size + 1 < W3.heap.size + 2 := by omega
      have zq3_W3 : w.heap.size + 1 < W3.heap.size + 3 := by omega
      have zr0_W3 : g < W3.heap.size := by omega
      have zr1_W3 : g < W3.heap.size + 1 := by omega
      have zr2_W3 : g < W3.heap.size + 2 := by omega
      have zr3_W3 : g < W3.heap.size + 3 := by omega
      clear hF hb1 hz1 hzg
      go_wp2_with (refine wpList_bytes _ rfl (.tmp 127) 9 78 5 rfl Tryz.underlying9 Tryz.underlying78 Tryz.underlying5 ⟨#[]⟩ rfl ?_
                   intro k2 w4 hb2
                   have F_w4 := Lib.hid (((((HF_W3.out).r1' (.string (strOfNums [45]))).row' (.slice (some ⟨w.heap.size, 0, none⟩) 2 2)).alloc (.cells #[.int .u8 45] 5)).alloc (.cells #[.string (strOfNums [45])] 9) |>.later hb2)
                   have B_w4 := Lib.hid (Below.trans (belowA (.cells #[.string (strOfNums [45])] 9) (belowA (.cells #[.int .u8 45] 5) (belowS ⟨w.heap.size + 1, 256, none⟩ (.slice (some ⟨w.heap.size, 0, none⟩) 2 2) (belowS ⟨w.heap.size, 1, none⟩ (.string (strOfNums [45])) (HB_W3.out) (Nat.le_refl _)) (Nat.le_succ _)))) (hb2.mono (by rw [World.size_alloc, World.size_alloc, setCell_size, setCell_size]; omega)))
                   clear hb2
                   have hF := F_w4.out; have hb1 := B_w4.out
                   have HF_w4 := Lib.hid hF; have HB_w4 := Lib.hid hb1
                   have d0_w4 := (hb1.cell (World.block_lt_of_cell? w _ C0.out)).trans C0.out
                   have d1_w4 := (hb1.cell (World.block_lt_of_cell? w _ C1.out)).trans C1.out
                   have d2_w4 := (hb1.cell (World.block_lt_of_cell? w _ C2.out)).trans C2.out
                   have d3_w4 := (hb1.cell (World.block_lt_of_cell? w _ C3.out)).trans C3.out
                   have k45_w4 := hF.rep 45 (by omega)
                   have k58_w4 := hF.rep 58 (by omega)
                   have k256_w4 := hF.row
                   have kf_w4 := hF.fr
                   have kf0_w4 := hF.fr0
                   have kr0_w4 := hF.r0
                   have kr1_w4 := hF.r1
                   rw [if_pos rfl] at k45_w4
                   rw [if_neg (by omega), if_pos rfl] at k58_w4
                   have hz1 := hF.sz
                   have hzg : g < w4.heap.size := World.block_lt_of_cell? w4 _ d0_w4
                   have zp0_w4 : w.heap.size < w4.heap.size := by omega
                   have zp1_w4 : w.heap.size < w4.heap.size + 1 := by omega
                   have zp2_w4 : w.heap.size < w4.heap.size + 2 := by omega
                   have zp3_w4 : w.heap.size < w4.heap.size + 3 := by omega
                   have zq0_w4 : w.heap.size + 1 < w4.heap.size := by omega
                   have zq1_w4 : w.heap.size + 1 < w4.heap.size + 1 := by omega
                   have zq2_w4 : w.heap.size + 1 < w4.heap.size + 2 := by omega
                   have zq3_w4 : w.heap.size + 1 < w4.heap.size + 3 := by omega
                   have zr0_w4 : g < w4.heap.size := by omega
                   have zr1_w4 : g < w4.heap.size + 1 := by omega
                   have zr2_w4 : g < w4.heap.size + 2 := by omega
                   have zr3_w4 : g < w4.heap.size + 3 := by omega
                   clear hF hb1 hz1 hzg
                   skip)
      rw [rounds_succ]
      go_wp2_with fail
      go_ret
      exact ⟨⟨_, _, _, _, F_w4.out.v45' _⟩, rfl, belowS _ _ B_w4.out (Nat.le_succ _)⟩
end Go.Proofs.YtcleicjgeflbnaaGreatDoor
