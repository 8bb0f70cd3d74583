/- The walk of Weekdays; part of the proof of the laws of layer 3. Conditions: each theorem's own. -/
import Derived.Test.YtkbnjigoejalgaaDoorA5
import Derived.Test.YtkbnjigoejalgaaDoorShelf
namespace Go.Proofs.YtkbnjigoejalgaaDoor
open Go.RowKit

/-- strings.asciiSpace, as the program's text lays it. -/
def Tab (w : World) : Prop := ∀ c : Nat, c < 256 → w.cell? ⟨0, c, none⟩ = some (.int .u8 (if Lib.isSp (UInt8.ofNat c) then 1 else 0))

abbrev namesS : ByteArray := ⟨#[109, 111, 32, 116, 117, 32, 119, 101, 32, 116, 104, 32, 102, 114, 32, 115, 97, 32, 115, 117]⟩
def nms : List (List UInt8) := [[109, 111], [116, 117], [119, 101], [116, 104], [102, 114], [115, 97], [115, 117]]
theorem fields_names : Lib.fields namesS.data.toList = nms := by decide +kernel

theorem Fields_any (w : World) (hT : Tab w) : Calls Tryd.prog 9 #[.string namesS] w fun e w' =>
    e = .returned (.slice (some ⟨w.heap.size, 0, none⟩) 7 7) ∧ w' = w.alloc (.cells (nms.map fun l => Value.string ⟨l.toArray⟩).toArray 9) := by
  have ha : ∀ b ∈ namesS.data.toList, b.toNat < 128 := by decide +kernel
  have h := Any.strings_Fields_core Tryd.lays157 (by kernel_rfl) namesS w (by decide) (fun j b hj => ha b (List.mem_of_getElem? hj)) hT
  rw [fields_names] at h
  exact h

def selL (set : Nat) (k : Nat) : List (List UInt8) := ((List.range k).filter fun i => set / 2 ^ i % 2 == 1).map fun i => nms.getD i []
def strs (l : List (List UInt8)) : List Value := l.map fun x => Value.string ⟨x.toArray⟩

theorem info9 : (Tryd.prog.info? 9).map (fun i => (i.zero, i.size, i.bytes)) = some (some (.string ⟨#[]⟩), 1, 16) := by kernel_rfl

theorem selL_yes (set k : Nat) (h : (set / 2 ^ k % 2 == 1) = true) : selL set (k + 1) = selL set k ++ [nms.getD k []] := by
  unfold selL
  rw [List.range_succ, List.filter_append, List.map_append]
  simp [h]
theorem selL_no (set k : Nat) (h : (set / 2 ^ k % 2 == 1) = false) : selL set (k + 1) = selL set k := by
  unfold selL
  rw [List.range_succ, List.filter_append, List.map_append]
  simp [h]
theorem selL_le (set k : Nat) : (selL set k).length ≤ k := by
  unfold selL
  rw [List.length_map]
  exact Nat.le_trans (List.length_filter_le _ _) (by simp)

theorem join_le : ∀ n : Nat, n < 128 → (Lib.join (selL n 7) [44]).length ≤ 20 := by decide +kernel
theorem bit0 : ∀ n : Nat, n < 128 → (bits BinOp.and IntKind.i64 (n : Int) 1 == 1) = (n / 2 ^ 0 % 2 == 1) := by decide +kernel
theorem bit1 : ∀ n : Nat, n < 128 → (bits BinOp.and IntKind.i64 ((n : Int) / 2) 1 == 1) = (n / 2 ^ 1 % 2 == 1) := by decide +kernel
theorem bit2 : ∀ n : Nat, n < 128 → (bits BinOp.and IntKind.i64 ((n : Int) / 4) 1 == 1) = (n / 2 ^ 2 % 2 == 1) := by decide +kernel
theorem bit3 : ∀ n : Nat, n < 128 → (bits BinOp.and IntKind.i64 ((n : Int) / 8) 1 == 1) = (n / 2 ^ 3 % 2 == 1) := by decide +kernel
theorem bit4 : ∀ n : Nat, n < 128 → (bits BinOp.and IntKind.i64 ((n : Int) / 16) 1 == 1) = (n / 2 ^ 4 % 2 == 1) := by decide +kernel
theorem bit5 : ∀ n : Nat, n < 128 → (bits BinOp.and IntKind.i64 ((n : Int) / 32) 1 == 1) = (n / 2 ^ 5 % 2 == 1) := by decide +kernel
theorem bit6 : ∀ n : Nat, n < 128 → (bits BinOp.and IntKind.i64 ((n : Int) / 64) 1 == 1) = (n / 2 ^ 6 % 2 == 1) := by decide +kernel

set_option maxHeartbeats 8000000 in
theorem weekdays_yes (set : Nat) (hset : set < 128) (w : World) (hT : Tab w) (s : List UInt8) (hs : s = if selL set 7 = [] then [45] else Lib.join (selL set 7) [44]) :
    Calls Tryd.prog 5 #[.int .i64 set] w fun e w' => e = .returned (.tuple #[.string ⟨s.toArray⟩, .bool true]) ∧ Below w.heap.size w w' := by
  obtain ⟨i0, hi, hz0, hz1, hz2⟩ := info_parts info9
  have D := Lib.hid (Fields_any w hT)
  have Hs := Lib.hid hs
  clear hs hT
  go_enter Tryd.func5, Tryd.ntmps5
  go_wp2_with fail
  (with_reducible refine (D.out).mono ?_)
  rintro e w1 ⟨rfl, rfl⟩
  go_wp2
  go_loopw [4, 15] (fun v i wr => ∃ k : Nat, k ≤ 7 ∧ i = .int .i64 k ∧ wr.ownsRow (w.heap.size + 1) 9 1 v (selL set k).length (strs (selL set k)) ∧ (∀ j, j < 7 → wr.cell? ⟨w.heap.size, j, none⟩ = some (.string ⟨(nms.getD j []).toArray⟩)) ∧ Below w.heap.size w wr ∧ w.heap.size < wr.heap.size)
    (fun _ i _ => 7 - (intOf i).toNat)
  case atStart =>
    refine ⟨0, by omega, rfl, World.ownsRow_nil _ _ _ _, ?_, (Below.refl _ _).alloc (Nat.le_refl _) _, by simp⟩
    intro j hj
    have hjj : j = 0 ∨ j = 1 ∨ j = 2 ∨ j = 3 ∨ j = 4 ∨ j = 5 ∨ j = 6 := by omega
    rcases hjj with rfl | rfl | rfl | rfl | rfl | rfl | rfl <;> (rw [World.cell?_alloc_at _ _ _ _ rfl]; rfl)
  case round =>
    obtain ⟨k, hk, rfl, hown, hcell, hB, hz⟩ := hrel
    by_cases hk7 : k < 7
    · have hck := hcell k hk7
      have hle := selL_le set k
      have hyes := selL_yes set k
      have hno := selL_no set k
      have Hcell := Lib.hid hcell
      have Hyes := Lib.hid hyes
      have Hno := Lib.hid hno
      clear hcell hyes hno
      have hkk : k = 0 ∨ k = 1 ∨ k = 2 ∨ k = 3 ∨ k = 4 ∨ k = 5 ∨ k = 6 := by omega
      rcases hkk with rfl | rfl | rfl | rfl | rfl | rfl | rfl
      · have hb := bit0 set hset
        cases hc : (set / 2 ^ 0 % 2 == 1) with
        | false =>
          rw [hc] at hb
          have Hc := Lib.hid hc
          clear hc
          go_wp2
          go_roundw
          case rel => exact ⟨1, by omega, by go_num, by rw [Hno.out Hc.out]; exact hown, Hcell.out, hB, hz⟩
          case measure => simp [intOf]
        | true =>
          rw [hc] at hb
          have Hc := Lib.hid hc
          clear hc
          obtain ⟨L, hL⟩ : ∃ L, L = selL set 0 := ⟨_, rfl⟩
          rw [← hL] at hown hle
          have HL := Lib.hid hL
          clear hL
          go_wp2_with (at_builtin; refine wpList_append_own (wr.alloc (.cells #[.string ⟨(nms.getD 0 []).toArray⟩] 9)) rfl (.tmp 25) (.tmp 27) 30 rfl (w.heap.size + 1) 9 i0 (.string ⟨#[]⟩) 1 16 Tryd.underlying30 hi hz0 hz1 hz2 rfl (by decide) u4 L.length (strs L) rfl (hown.alloc _) ⟨wr.heap.size, 0, none⟩ 1 1 [.string ⟨(nms.getD 0 []).toArray⟩] rfl rfl ?c1 ?c2 ?c3 ?c4 ?c5 ?_)
          case c1 =>
            intro j u hj
            match j, hj with
            | 0, hj => simp at hj; subst hj; simp [Addr.add]
          case c2 => intro u hu; simp at hu; subst hu; rfl
          case c3 => unfold maxLen; omega
          case c4 => omega
          case c5 => simp; omega
          intro v' w2 hown' hgrow _
          have hB2 : Below w.heap.size w w2 := (hB.alloc hB.size _).grown hgrow (by have := hB.size; simp; omega) (fun k hk => by have := (hown.lt k hk).1; omega)
          have hcell2 : ∀ j, j < 7 → w2.cell? ⟨w.heap.size, j, none⟩ = some (.string ⟨(nms.getD j []).toArray⟩) := by
            intro j hj
            refine hgrow.cell ?_ (by intro e; have := (hown.lt _ e.symm).1; simp at this; omega)
            rw [World.cell?_alloc_past _ _ _ hz]
            exact Hcell.out j hj
          have hz2' : w.heap.size < w2.heap.size := World.block_lt_of_cell? w2 _ (hcell2 0 (by omega))
          have ho2 : w2.ownsRow (w.heap.size + 1) 9 1 v' (selL set 1).length (strs (selL set 1)) := by
            rw [Hyes.out Hc.out, ← HL.out]; unfold strs at *; rw [List.map_append, List.length_append]; exact hown'
          have Hcell2 := Lib.hid hcell2
          clear hown' hgrow hown hcell2
          go_wp2
          go_roundw
          case rel => exact ⟨1, by omega, by go_num, ho2, Hcell2.out, hB2, hz2'⟩
          case measure => simp [intOf]
      · have hb := bit1 set hset
        cases hc : (set / 2 ^ 1 % 2 == 1) with
        | false =>
          rw [hc] at hb
          have Hc := Lib.hid hc
          clear hc
          go_wp2
          go_roundw
          case rel => exact ⟨2, by omega, by go_num, by rw [Hno.out Hc.out]; exact hown, Hcell.out, hB, hz⟩
          case measure => simp [intOf]
        | true =>
          rw [hc] at hb
          have Hc := Lib.hid hc
          clear hc
          obtain ⟨L, hL⟩ : ∃ L, L = selL set 1 := ⟨_, rfl⟩
          rw [← hL] at hown hle
          have HL := Lib.hid hL
          clear hL
          go_wp2_with (at_builtin; refine wpList_append_own (wr.alloc (.cells #[.string ⟨(nms.getD 1 []).toArray⟩] 9)) rfl (.tmp 25) (.tmp 27) 30 rfl (w.heap.size + 1) 9 i0 (.string ⟨#[]⟩) 1 16 Tryd.underlying30 hi hz0 hz1 hz2 rfl (by decide) u4 L.length (strs L) rfl (hown.alloc _) ⟨wr.heap.size, 0, none⟩ 1 1 [.string ⟨(nms.getD 1 []).toArray⟩] rfl rfl ?c1 ?c2 ?c3 ?c4 ?c5 ?_)
          case c1 =>
            intro j u hj
            match j, hj with
            | 0, hj => simp at hj; subst hj; simp [Addr.add]
          case c2 => intro u hu; simp at hu; subst hu; rfl
          case c3 => unfold maxLen; omega
          case c4 => omega
          case c5 => simp; omega
          intro v' w2 hown' hgrow _
          have hB2 : Below w.heap.size w w2 := (hB.alloc hB.size _).grown hgrow (by have := hB.size; simp; omega) (fun k hk => by have := (hown.lt k hk).1; omega)
          have hcell2 : ∀ j, j < 7 → w2.cell? ⟨w.heap.size, j, none⟩ = some (.string ⟨(nms.getD j []).toArray⟩) := by
            intro j hj
            refine hgrow.cell ?_ (by intro e; have := (hown.lt _ e.symm).1; simp at this; omega)
            rw [World.cell?_alloc_past _ _ _ hz]
            exact Hcell.out j hj
          have hz2' : w.heap.size < w2.heap.size := World.block_lt_of_cell? w2 _ (hcell2 0 (by omega))
          have ho2 : w2.ownsRow (w.heap.size + 1) 9 1 v' (selL set 2).length (strs (selL set 2)) := by
            rw [Hyes.out Hc.out, ← HL.out]; unfold strs at *; rw [List.map_append, List.length_append]; exact hown'
          have Hcell2 := Lib.hid hcell2
          clear hown' hgrow hown hcell2
          go_wp2
          go_roundw
          case rel => exact ⟨2, by omega, by go_num, ho2, Hcell2.out, hB2, hz2'⟩
          case measure => simp [intOf]
      · have hb := bit2 set hset
        cases hc : (set / 2 ^ 2 % 2 == 1) with
        | false =>
          rw [hc] at hb
          have Hc := Lib.hid hc
          clear hc
          go_wp2
          go_roundw
          case rel => exact ⟨3, by omega, by go_num, by rw [Hno.out Hc.out]; exact hown, Hcell.out, hB, hz⟩
          case measure => simp [intOf]
        | true =>
          rw [hc] at hb
          have Hc := Lib.hid hc
          clear hc
          obtain ⟨L, hL⟩ : ∃ L, L = selL set 2 := ⟨_, rfl⟩
          rw [← hL] at hown hle
          have HL := Lib.hid hL
          clear hL
          go_wp2_with (at_builtin; refine wpList_append_own (wr.alloc (.cells #[.string ⟨(nms.getD 2 []).toArray⟩] 9)) rfl (.tmp 25) (.tmp 27) 30 rfl (w.heap.size + 1) 9 i0 (.string ⟨#[]⟩) 1 16 Tryd.underlying30 hi hz0 hz1 hz2 rfl (by decide) u4 L.length (strs L) rfl (hown.alloc _) ⟨wr.heap.size, 0, none⟩ 1 1 [.string ⟨(nms.getD 2 []).toArray⟩] rfl rfl ?c1 ?c2 ?c3 ?c4 ?c5 ?_)
          case c1 =>
            intro j u hj
            match j, hj with
            | 0, hj => simp at hj; subst hj; simp [Addr.add]
          case c2 => intro u hu; simp at hu; subst hu; rfl
          case c3 => unfold maxLen; omega
          case c4 => omega
          case c5 => simp; omega
          intro v' w2 hown' hgrow _
          have hB2 : Below w.heap.size w w2 := (hB.alloc hB.size _).grown hgrow (by have := hB.size; simp; omega) (fun k hk => by have := (hown.lt k hk).1; omega)
          have hcell2 : ∀ j, j < 7 → w2.cell? ⟨w.heap.size, j, none⟩ = some (.string ⟨(nms.getD j []).toArray⟩) := by
            intro j hj
            refine hgrow.cell ?_ (by intro e; have := (hown.lt _ e.symm).1; simp at this; omega)
            rw [World.cell?_alloc_past _ _ _ hz]
            exact Hcell.out j hj
          have hz2' : w.heap.size < w2.heap.size := World.block_lt_of_cell? w2 _ (hcell2 0 (by omega))
          have ho2 : w2.ownsRow (w.heap.size + 1) 9 1 v' (selL set 3).length (strs (selL set 3)) := by
            rw [Hyes.out Hc.out, ← HL.out]; unfold strs at *; rw [List.map_append, List.length_append]; exact hown'
          have Hcell2 := Lib.hid hcell2
          clear hown' hgrow hown hcell2
          go_wp2
          go_roundw
          case rel => exact ⟨3, by omega, by go_num, ho2, Hcell2.out, hB2, hz2'⟩
          case measure => simp [intOf]
      · have hb := bit3 set hset
        cases hc : (set / 2 ^ 3 % 2 == 1) with
        | false =>
          rw [hc] at hb
          have Hc := Lib.hid hc
          clear hc
          go_wp2
          go_roundw
          case rel => exact ⟨4, by omega, by go_num, by rw [Hno.out Hc.out]; exact hown, Hcell.out, hB, hz⟩
          case measure => simp [intOf]
        | true =>
          rw [hc] at hb
          have Hc := Lib.hid hc
          clear hc
          obtain ⟨L, hL⟩ : ∃ L, L = selL set 3 := ⟨_, rfl⟩
          rw [← hL] at hown hle
          have HL := Lib.hid hL
          clear hL
          go_wp2_with (at_builtin; refine wpList_append_own (wr.alloc (.cells #[.string ⟨(nms.getD 3 []).toArray⟩] 9)) rfl (.tmp 25) (.tmp 27) 30 rfl (w.heap.size + 1) 9 i0 (.string ⟨#[]⟩) 1 16 Tryd.underlying30 hi hz0 hz1 hz2 rfl (by decide) u4 L.length (strs L) rfl (hown.alloc _) ⟨wr.heap.size, 0, none⟩ 1 1 [.string ⟨(nms.getD 3 []).toArray⟩] rfl rfl ?c1 ?c2 ?c3 ?c4 ?c5 ?_)
          case c1 =>
            intro j u hj
            match j, hj with
            | 0, hj => simp at hj; subst hj; simp [Addr.add]
          case c2 => intro u hu; simp at hu; subst hu; rfl
          case c3 => unfold maxLen; omega
          case c4 => omega
          case c5 => simp; omega
          intro v' w2 hown' hgrow _
          have hB2 : Below w.heap.size w w2 := (hB.alloc hB.size _).grown hgrow (by have := hB.size; simp; omega) (fun k hk => by have := (hown.lt k hk).1; omega)
          have hcell2 : ∀ j, j < 7 → w2.cell? ⟨w.heap.size, j, none⟩ = some (.string ⟨(nms.getD j []).toArray⟩) := by
            intro j hj
            refine hgrow.cell ?_ (by intro e; have := (hown.lt _ e.symm).1; simp at this; omega)
            rw [World.cell?_alloc_past _ _ _ hz]
            exact Hcell.out j hj
          have hz2' : w.heap.size < w2.heap.size := World.block_lt_of_cell? w2 _ (hcell2 0 (by omega))
          have ho2 : w2.ownsRow (w.heap.size + 1) 9 1 v' (selL set 4).length (strs (selL set 4)) := by
            rw [Hyes.out Hc.out, ← HL.out]; unfold strs at *; rw [List.map_append, List.length_append]; exact hown'
          have Hcell2 := Lib.hid hcell2
          clear hown' hgrow hown hcell2
          go_wp2
          go_roundw
          case rel => exact ⟨4, by omega, by go_num, ho2, Hcell2.out, hB2, hz2'⟩
          case measure => simp [intOf]
      · have hb := bit4 set hset
        cases hc : (set / 2 ^ 4 % 2 == 1) with
        | false =>
          rw [hc] at hb
          have Hc := Lib.hid hc
          clear hc
          go_wp2
          go_roundw
          case rel => exact ⟨5, by omega, by go_num, by rw [Hno.out Hc.out]; exact hown, Hcell.out, hB, hz⟩
          case measure => simp [intOf]
        | true =>
          rw [hc] at hb
          have Hc := Lib.hid hc
          clear hc
          obtain ⟨L, hL⟩ : ∃ L, L = selL set 4 := ⟨_, rfl⟩
          rw [← hL] at hown hle
          have HL := Lib.hid hL
          clear hL
          go_wp2_with (at_builtin; refine wpList_append_own (wr.alloc (.cells #[.string ⟨(nms.getD 4 []).toArray⟩] 9)) rfl (.tmp 25) (.tmp 27) 30 rfl (w.heap.size + 1) 9 i0 (.string ⟨#[]⟩) 1 16 Tryd.underlying30 hi hz0 hz1 hz2 rfl (by decide) u4 L.length (strs L) rfl (hown.alloc _) ⟨wr.heap.size, 0, none⟩ 1 1 [.string ⟨(nms.getD 4 []).toArray⟩] rfl rfl ?c1 ?c2 ?c3 ?c4 ?c5 ?_)
          case c1 =>
            intro j u hj
            match j, hj with
            | 0, hj => simp at hj; subst hj; simp [Addr.add]
          case c2 => intro u hu; simp at hu; subst hu; rfl
          case c3 => unfold maxLen; omega
          case c4 => omega
          case c5 => simp; omega
          intro v' w2 hown' hgrow _
          have hB2 : Below w.heap.size w w2 := (hB.alloc hB.size _).grown hgrow (by have := hB.size; simp; omega) (fun k hk => by have := (hown.lt k hk).1; omega)
          have hcell2 : ∀ j, j < 7 → w2.cell? ⟨w.heap.size, j, none⟩ = some (.string ⟨(nms.getD j []).toArray⟩) := by
            intro j hj
            refine hgrow.cell ?_ (by intro e; have := (hown.lt _ e.symm).1; simp at this; omega)
            rw [World.cell?_alloc_past _ _ _ hz]
            exact Hcell.out j hj
          have hz2' : w.heap.size < w2.heap.size := World.block_lt_of_cell? w2 _ (hcell2 0 (by omega))
          have ho2 : w2.ownsRow (w.heap.size + 1) 9 1 v' (selL set 5).length (strs (selL set 5)) := by
            rw [Hyes.out Hc.out, ← HL.out]; unfold strs at *; rw [List.map_append, List.length_append]; exact hown'
          have Hcell2 := Lib.hid hcell2
          clear hown' hgrow hown hcell2
          go_wp2
          go_roundw
          case rel => exact ⟨5, by omega, by go_num, ho2, Hcell2.out, hB2, hz2'⟩
          case measure => simp [intOf]
      · have hb := bit5 set hset
        cases hc : (set / 2 ^ 5 % 2 == 1) with
        | false =>
          rw [hc] at hb
          have Hc := Lib.hid hc
          clear hc
          go_wp2
          go_roundw
          case rel => exact ⟨6, by omega, by go_num, by rw [Hno.out Hc.out]; exact hown, Hcell.out, hB, hz⟩
          case measure => simp [intOf]
        | true =>
          rw [hc] at hb
          have Hc := Lib.hid hc
          clear hc
          obtain ⟨L, hL⟩ : ∃ L, L = selL set 5 := ⟨_, rfl⟩
          rw [← hL] at hown hle
          have HL := Lib.hid hL
          clear hL
          go_wp2_with (at_builtin; refine wpList_append_own (wr.alloc (.cells #[.string ⟨(nms.getD 5 []).toArray⟩] 9)) rfl (.tmp 25) (.tmp 27) 30 rfl (w.heap.size + 1) 9 i0 (.string ⟨#[]⟩) 1 16 Tryd.underlying30 hi hz0 hz1 hz2 rfl (by decide) u4 L.length (strs L) rfl (hown.alloc _) ⟨wr.heap.size, 0, none⟩ 1 1 [.string ⟨(nms.getD 5 []).toArray⟩] rfl rfl ?c1 ?c2 ?c3 ?c4 ?c5 ?_)
          case c1 =>
            intro j u hj
            match j, hj with
            | 0, hj => simp at hj; subst hj; simp [Addr.add]
          case c2 => intro u hu; simp at hu; subst hu; rfl
          case c3 => unfold maxLen; omega
          case c4 => omega
          case c5 => simp; omega
          intro v' w2 hown' hgrow _
          have hB2 : Below w.heap.size w w2 := (hB.alloc hB.size _).grown hgrow (by have := hB.size; simp; omega) (fun k hk => by have := (hown.lt k hk).1; omega)
          have hcell2 : ∀ j, j < 7 → w2.cell? ⟨w.heap.size, j, none⟩ = some (.string ⟨(nms.getD j []).toArray⟩) := by
            intro j hj
            refine hgrow.cell ?_ (by intro e; have := (hown.lt _ e.symm).1; simp at this; omega)
            rw [World.cell?_alloc_past _ _ _ hz]
            exact Hcell.out j hj
          have hz2' : w.heap.size < w2.heap.size := World.block_lt_of_cell? w2 _ (hcell2 0 (by omega))
          have ho2 : w2.ownsRow (w.heap.size + 1) 9 1 v' (selL set 6).length (strs (selL set 6)) := by
            rw [Hyes.out Hc.out, ← HL.out]; unfold strs at *; rw [List.map_append, List.length_append]; exact hown'
          have Hcell2 := Lib.hid hcell2
          clear hown' hgrow hown hcell2
          go_wp2
          go_roundw
          case rel => exact ⟨6, by omega, by go_num, ho2, Hcell2.out, hB2, hz2'⟩
          case measure => simp [intOf]
      · have hb := bit6 set hset
        cases hc : (set / 2 ^ 6 % 2 == 1) with
        | false =>
          rw [hc] at hb
          have Hc := Lib.hid hc
          clear hc
          go_wp2
          go_roundw
          case rel => exact ⟨7, by omega, by go_num, by rw [Hno.out Hc.out]; exact hown, Hcell.out, hB, hz⟩
          case measure => simp [intOf]
        | true =>
          rw [hc] at hb
          have Hc := Lib.hid hc
          clear hc
          obtain ⟨L, hL⟩ : ∃ L, L = selL set 6 := ⟨_, rfl⟩
          rw [← hL] at hown hle
          have HL := Lib.hid hL
          clear hL
          go_wp2_with (at_builtin; refine wpList_append_own (wr.alloc (.cells #[.string ⟨(nms.getD 6 []).toArray⟩] 9)) rfl (.tmp 25) (.tmp 27) 30 rfl (w.heap.size + 1) 9 i0 (.string ⟨#[]⟩) 1 16 Tryd.underlying30 hi hz0 hz1 hz2 rfl (by decide) u4 L.length (strs L) rfl (hown.alloc _) ⟨wr.heap.size, 0, none⟩ 1 1 [.string ⟨(nms.getD 6 []).toArray⟩] rfl rfl ?c1 ?c2 ?c3 ?c4 ?c5 ?_)
          case c1 =>
            intro j u hj
            match j, hj with
            | 0, hj => simp at hj; subst hj; simp [Addr.add]
          case c2 => intro u hu; simp at hu; subst hu; rfl
          case c3 => unfold maxLen; omega
          case c4 => omega
          case c5 => simp; omega
          intro v' w2 hown' hgrow _
          have hB2 : Below w.heap.size w w2 := (hB.alloc hB.size _).grown hgrow (by have := hB.size; simp; omega) (fun k hk => by have := (hown.lt k hk).1; omega)
          have hcell2 : ∀ j, j < 7 → w2.cell? ⟨w.heap.size, j, none⟩ = some (.string ⟨(nms.getD j []).toArray⟩) := by
            intro j hj
            refine hgrow.cell ?_ (by intro e; have := (hown.lt _ e.symm).1; simp at this; omega)
            rw [World.cell?_alloc_past _ _ _ hz]
            exact Hcell.out j hj
          have hz2' : w.heap.size < w2.heap.size := World.block_lt_of_cell? w2 _ (hcell2 0 (by omega))
          have ho2 : w2.ownsRow (w.heap.size + 1) 9 1 v' (selL set 7).length (strs (selL set 7)) := by
            rw [Hyes.out Hc.out, ← HL.out]; unfold strs at *; rw [List.map_append, List.length_append]; exact hown'
          have Hcell2 := Lib.hid hcell2
          clear hown' hgrow hown hcell2
          go_wp2
          go_roundw
          case rel => exact ⟨7, by omega, by go_num, ho2, Hcell2.out, hB2, hz2'⟩
          case measure => simp [intOf]
    · obtain rfl : k = 7 := by omega
      have hle := selL_le set 7
      have hs2 := Hs.out
      have hjb := join_le set hset
      generalize selL set 7 = L at *
      by_cases h0 : L = []
      · subst h0
        rw [if_pos rfl] at hs2
        subst hs2
        obtain ⟨_, hv⟩ := hown
        rcases hv with ⟨rfl, _⟩ | ⟨g, cap, cur, rfl, _⟩
        · go_wp2
          go_ret2
          exact ⟨rfl, hB⟩
        · go_wp2
          go_ret2
          exact ⟨rfl, hB⟩
      · rw [if_neg h0] at hs2
        have hpos : 0 < L.length := List.length_pos_iff.2 h0
        have hbg := hown.lt
        have hcells := fun g => hown.cells (g := g)
        obtain ⟨_, hv⟩ := hown
        rcases hv with ⟨_, hn⟩ | ⟨g, cap, cur, rfl, hgb, hheap, hnc, hcm, hcs, hcc⟩
        · omega
        · have hcl : ∀ (j : Nat) x, (L.map fun l => (⟨l.toArray⟩ : ByteArray))[j]? = some x → wr.cell? ⟨g, 0 + j, none⟩ = some (.string x) := by
            intro j x hj
            rw [List.getElem?_map] at hj
            cases hl : L[j]? with
            | none => rw [hl] at hj; simp at hj
            | some y =>
              rw [hl] at hj
              simp at hj
              subst hj
              have := hcells g rfl j (.string ⟨y.toArray⟩) (by unfold strs; rw [List.getElem?_map, hl]; rfl)
              cases j with
              | zero => simpa [Addr.add] using this
              | succ j => simpa [Addr.add] using this
          have hgz : g < wr.heap.size := (hbg g rfl).2
          have hjl : (Lib.join ((L.map fun l => (⟨l.toArray⟩ : ByteArray)).map (·.data.toList)) [44]) = s := by
            have hid : ((L.map fun l => (⟨l.toArray⟩ : ByteArray)).map (·.data.toList)) = L := by rw [List.map_map]; exact List.map_id L
            rw [hs2, hid]
          have hsl : s.length ≤ 1000 := by
            rw [hs2]; omega
          have J := Lib.hid (Tryd.strings_Join g 0 cap (L.map fun l => (⟨l.toArray⟩ : ByteArray)) ⟨#[44]⟩ wr hcl hgz (by simp; omega) (by simpa using hnc) (by rw [show (⟨#[44]⟩ : ByteArray).data.toList = [44] from rfl, hjl]; omega))
          rw [show (⟨#[44]⟩ : ByteArray).data.toList = [44] from rfl, hjl, List.length_map] at J
          have hn0 : ((L.length : Int) == 0) = false := by rw [beq_eq_false_iff_ne]; omega
          clear hcl hjl hsl hs2 hcells hbg hcc hcs hcm hnc hheap
          go_wp2_with fail
          (with_reducible refine (J.out).mono ?_)
          rintro e w3 ⟨rfl, hb3⟩
          go_wp2
          go_ret2
          exact ⟨rfl, below_call hB hb3⟩
end Go.Proofs.YtkbnjigoejalgaaDoor
