/- (*byteStringReplacer).Replace at a text of sixteen bytes, of which one is a colon and two are hyphens. -/
import Derived.Test.YtcleicjgeflbnaaGreatDoorS3
import Derived.Test.YtcleicjgeflbnaaGreatDoorShelf
import Derived.Deep.QuietTactic
import Derived.BigQuiet
import Derived.StillTailTactics
import Derived.Laws.CopyOwn
import Derived.Deep.RegionLaw
namespace Go.Proofs.YtcleicjgeflbnaaGreatDoor
open Go.RowKit
set_option linter.all false

def fltT (l : List UInt8) : List UInt8 := l.filter fun c => c != 45 && c != 58

theorem step_copy_nothing {P : Program} {ops : Array Oper} {o : Oper} {a : Act} {w : World} {K : Act → World → Prop} {Q : Exit → Act → World → Prop} {E : Prop} (hgd : o.guard = none) (d s : Operand) (dT sT : TypeId)
    (ho : o.op = .call { callee := .builtin .copy, args := #[d, s], argTypes := #[dT, sT] }) (elem : TypeId) (hu : P.underlying dT = some (.slice elem)) (hsz : (P.info? elem).map (·.size) = some 1)
    (dp sp : Option Addr) (dLen dCap sLen sCap : Nat) (hd : a.eval d = .slice dp dLen dCap) (hs : a.eval s = .slice sp sLen sCap) (hn : Nat.min sLen dLen = 0)
    (h : K (a.put o.dst (goInt 0)) w) : if Region.wanted o (yielded ops a.tmps) = true then Oper.wp P o a w K Q else E := by
  have hw : Region.wanted o (yielded ops a.tmps) = true := by simp [Region.wanted, hgd]
  rw [if_pos hw]
  have hrun := run_copy_none (P := P) w dT sT o.type elem dp sp dLen dCap sLen sCap hu hsz hn
  unfold Oper.wp
  simp [execOp, ho, resolve, invoke, builtin, hd, hs, hrun, Result.andThen]
  exact h
theorem str_of_map (l : List UInt8) : strOfNums (l.map fun c => (c.toNat : Int)) = toB l := by
  unfold strOfNums toB
  congr 1
  apply Array.ext'
  have h : ((fun n : Int => UInt8.ofNat n.toNat) ∘ fun c : UInt8 => (c.toNat : Int)) = id := by funext c; simp
  simp [h]
theorem take_snoc (s : ByteArray) (k : Nat) (h : k < s.size) : s.data.toList.take (k + 1) = s.data.toList.take k ++ [s[k]] := by
  rw [List.take_succ_eq_append_getElem (by simpa using h)]; rfl
/-- A row of thirteen bytes begins with a list's. -/
structure BW (N : Nat) (l : List UInt8) (W : World) : Prop where
  cell : ∀ t, t < 13 → W.cell? ⟨N, t, none⟩ = some (.int .u8 ((l.getD t 0).toNat : Nat))
  fr : ∀ t, W.frozen? ⟨N, t, none⟩ = false
abbrev zeros13 : Array Value := #[.int .u8 0, .int .u8 0, .int .u8 0, .int .u8 0, .int .u8 0, .int .u8 0, .int .u8 0, .int .u8 0, .int .u8 0, .int .u8 0, .int .u8 0, .int .u8 0, .int .u8 0]
theorem bw_start (w : World) (q : Nat) : BW w.heap.size [] ((w.alloc (.cells zeros13 5)).drewN q) := by
  refine ⟨fun t ht => ?_, fun t => ?_⟩
  · rw [World.cell?_drewN, World.cell?_alloc_at _ _ _ _ rfl]
    have htt : t = 0 ∨ t = 1 ∨ t = 2 ∨ t = 3 ∨ t = 4 ∨ t = 5 ∨ t = 6 ∨ t = 7 ∨ t = 8 ∨ t = 9 ∨ t = 10 ∨ t = 11 ∨ t = 12 := by omega
    rcases htt with rfl | rfl | rfl | rfl | rfl | rfl | rfl | rfl | rfl | rfl | rfl | rfl | rfl <;> rfl
  · simp
theorem BW.put {N : Nat} {l : List UInt8} {W : World} (h : BW N l W) (c : UInt8) (hl : l.length < 13) : BW N (l ++ [c]) (W.setCell ⟨N, l.length, none⟩ (.int .u8 (c.toNat : Nat))) := by
  refine ⟨fun t ht => ?_, fun t => by rw [World.frozen?_setCell]; exact h.fr t⟩
  by_cases e : t = l.length
  · subst e
    rw [World.cell?_setCell_same _ _ _ (h.cell _ hl)]
    simp [List.getD]
  · rw [World.cell?_setCell_other _ _ _ _ (by simp only [ne_eq, Addr.mk.injEq]; omega), h.cell t ht]
    congr 3
    simp only [List.getD, List.getElem?_append]
    split
    · rfl
    · rename_i hh
      rw [List.getElem?_eq_none (by omega), List.getElem?_eq_none (by simp; omega)]
theorem BW.drewN {N : Nat} {l : List UInt8} {W : World} (h : BW N l W) (q : Nat) : BW N l (W.drewN q) := ⟨h.cell, h.fr⟩
theorem flt_snoc (l : List UInt8) (c : UInt8) : fltT (l ++ [c]) = if c != 45 && c != 58 then fltT l ++ [c] else fltT l := by
  unfold fltT
  rw [List.filter_append]
  split <;> simp [*]
theorem flt_le (l : List UInt8) (k : Nat) : (fltT (l.take k)).length ≤ (fltT l).length := by
  unfold fltT
  exact (List.Sublist.filter _ (List.take_sublist _ _)).length_le

set_option maxRecDepth 100000 in
set_option maxHeartbeats 8000000 in
theorem bsrReplace_any (n0 : Nat) (s : ByteArray) (w : World) (h : BSdone n0 w) (hs : s.size = 16) (h58 : Lib.countByte s.data.toList 58 = 1) (h45 : Lib.countByte s.data.toList 45 = 2) (hl : (fltT s.data.toList).length = 13) :
    Calls Tryz.prog 190 #[.pointer (some ⟨n0 + 1, 0, none⟩), .string s] w fun e w' => e = .returned (.string (toB (fltT s.data.toList))) ∧ Below w.heap.size w w' := by
  obtain ⟨k1, k2, a1, a2, hF⟩ := h
  have CC := Lib.hid (fun W => (Tryz.strings_Count_one s 58 W).mono fun e w' h => (⟨h.1, h.2.symm⟩ : e = _ ∧ W = w'))
  have CD := Lib.hid (fun W => (Tryz.strings_Count_one s 45 W).mono fun e w' h => (⟨h.1, h.2.symm⟩ : e = _ ∧ W = w'))
  have H58 := Lib.hid h58; have H45 := Lib.hid h45
  have HF := Lib.hid hF
  have e256 := hF.row
  have e0 := hF.r0
  have e1 := hF.r1
  have e58 := hF.rep 58 (by omega)
  have e45 := hF.rep 45 (by omega)
  rw [if_neg (by omega), if_pos rfl] at e58
  rw [if_pos rfl] at e45
  have b58 : ({ data := #[58] } : ByteArray)[0].toNat = 58 := rfl
  have b45 : ({ data := #[45] } : ByteArray)[0].toNat = 45 := rfl
  have hmk : ∀ W, (Instr.makeSlice 78 (.int .i64 13) (.int .i64 13)).run Tryz.prog W = .ok (.slice (some ⟨W.heap.size, 0, none⟩) 13 13) (W.alloc (.cells zeros13 5)) := fun _ => by kernel_rfl
  have hne : ∀ (W : World) (a : Option Addr) (l c : Nat), (binOp .neq 78 (.slice a l c) (.slice none 0 0)).run Tryz.prog W = .ok (.bool (!a.isNone)) W := fun W a l c => by first | (apply run_neq_slice_nil_any; exact Tryz.underlying78) | (apply Lib.run_neq_slice_nil_any; exact Tryz.underlying78) | (apply Go.run_neq_slice_nil; exact Tryz.underlying78)
  clear h58 h45 hF
  go_enter Tryz.func190, Tryz.ntmps190
  go_wp2_with fail
  refine wp_loop_rounds 3 ?_
  rw [rounds_succ]
  go_wp2_with (go_at_call 192; ((with_reducible refine (CC.out _).mono ?_); rw [H58.out]; rintro e w1 ⟨rfl, rfl⟩))
  go_quiet (fail)
  go_wp2_with fail
  rw [rounds_succ]
  go_wp2_with (go_at_call 192; ((with_reducible refine (CD.out _).mono ?_); rw [H45.out]; rintro e w1 ⟨rfl, rfl⟩))
  go_quiet (fail)
  go_wp2_with fail
  rw [rounds_succ]
  go_wp2_with fail
  obtain ⟨N, hN⟩ : ∃ N, N = w.heap.size := ⟨_, rfl⟩
  have HN := Lib.hid hN
  rw [← hN]
  clear hN
  go_loopw [13, 14] (fun j i wr => ∃ k : Nat, k ≤ 16 ∧ i = .int .i64 (k : Nat) ∧ j = .int .i64 ((fltT (s.data.toList.take k)).length : Nat) ∧ Hid (Below w.heap.size w wr) ∧ BW N (fltT (s.data.toList.take k)) wr ∧ Hid (N < wr.heap.size)) (fun _ i _ => 16 - (intOf i).toNat)
  case atStart =>
    refine ⟨0, by omega, rfl, rfl, ?_, ?_, ?_⟩
    · first | exact below_drewN (belowA _ (Below.refl _ _)) _ | exact belowA _ (below_drewN (Below.refl _ _) _)
    · rw [HN.out]; exact bw_start _ _
    · rw [HN.out]; show w.heap.size < _; simp
  case round =>
    obtain ⟨k, hk, rfl, rfl, HB, hW, HNz⟩ := hrel
    have hF2 := HF.out.later HB.out
    by_cases hlt : k < 16
    · have hlt' : (k : Int) < 16 := by omega
      have hlt2 : k < s.size := by omega
      have hts := take_snoc s k hlt2
      have hle := flt_le s.data.toList (k + 1)
      have hb256 : ((s[k].toNat : Nat) : Int) < 256 := by have := s[k].toNat_lt; omega
      have hlj : (fltT (s.data.toList.take k)).length ≤ 13 := by have := flt_le s.data.toList k; omega
      rw [hts, flt_snoc, hl] at hle
      have hrep := hF2.rep s[k].toNat (by have := s[k].toNat_lt; omega)
      have TS := Lib.hid hts
      have FS := Lib.hid (flt_snoc (s.data.toList.take k) s[k])
      have hsi : (k : Int) < (s.size : Int) := by omega
      obtain ⟨l, hl'⟩ : ∃ l, l = fltT (s.data.toList.take k) := ⟨_, rfl⟩
      rw [← hl'] at hle hlj FS hW ⊢
      have LL := Lib.hid hl'
      have hlji : (l.length : Int) ≤ 13 := by omega
      have HW := Lib.hid hW
      have HL := Lib.hid hl
      clear hts hl' hF2 hW hl
      by_cases hc : s[k].toNat = 45 ∨ s[k].toNat = 58
      · have hv : ∃ a c, wr.cell? ⟨n0 + 1, s[k].toNat, none⟩ = some (.slice (some a) 0 c) := by
          rcases hc with e | e
          · exact ⟨a1, k1, by rw [hrep, if_pos e]⟩
          · exact ⟨a2, k2, by rw [hrep, if_neg (by omega), if_pos e]⟩
        obtain ⟨a, c, hv⟩ := hv
        have HC := Lib.hid hc
        clear hrep hle hc
        go_wp2_with fail
        go_region_law (refine step_copy_nothing rfl (.tmp 105) (.tmp 111) 78 78 rfl 5 Tryz.underlying78 (by kernel_rfl) _ _ _ _ _ _ rfl rfl (by simp) ?_)
        generalize (if 13 = l.length then (some ⟨N, 0, none⟩ : Option Addr) else some ⟨N, l.length, none⟩) = ao
        go_wp2_with fail
        go_roundw
        case measure => simp [intOf]; omega
        case rel =>
          have hfl : fltT (s.data.toList.take (k + 1)) = l := by
            rw [TS.out, FS.out, if_neg]
            intro hh
            simp only [Bool.and_eq_true, bne_iff_ne] at hh
            rcases HC.out with e | e
            · exact hh.1 (UInt8.toNat_inj.1 e)
            · exact hh.2 (UInt8.toNat_inj.1 e)
          refine ⟨k + 1, by omega, by go_num, by rw [hfl], ?_, by rw [hfl]; exact ⟨HW.out.cell, HW.out.fr⟩, HNz.out⟩
          exact HB.out.drew
      · have hv : wr.cell? ⟨n0 + 1, s[k].toNat, none⟩ = some (.slice none 0 0) := by rw [hrep, if_neg (fun e => hc (.inl e)), if_neg (fun e => hc (.inr e))]
        have hcc : (s[k] != 45 && s[k] != 58) = true := by
          simp only [Bool.and_eq_true, bne_iff_ne]
          exact ⟨fun e => hc (.inl (by rw [e]; rfl)), fun e => hc (.inr (by rw [e]; rfl))⟩
        rw [if_pos hcc] at hle FS
        have hl13 : l.length < 13 := by simp at hle; omega
        have hcl := HW.out.cell l.length hl13
        have hfl := HW.out.fr
        have hl13' : (l.length : Int) < 13 := by omega
        have HP := Lib.hid (HW.out.put s[k] hl13)
        clear hrep hle hc hcc
        go_wp2_with fail
        go_roundw
        case measure => simp [intOf]; omega
        case rel =>
          have hfl : fltT (s.data.toList.take (k + 1)) = l ++ [s[k]] := by rw [TS.out, FS.out]
          refine ⟨k + 1, by omega, by go_num, by rw [hfl]; simp, ?_, by rw [hfl]; exact HP.out, by rw [setCell_size]; exact HNz.out⟩
          exact HB.out.setCell (by rw [HN.out]; exact Nat.le_refl _) _
    · obtain rfl : k = 16 := by omega
      have htk : s.data.toList.take 16 = s.data.toList := List.take_of_length_le (by simp; omega)
      rw [htk] at hW ⊢
      have hcv := run_convert_bytes_arg (P := Tryz.prog) wr 78 5 Tryz.underlying78 Tryz.underlying5 N 0 13 13 ((fltT s.data.toList).map fun c => (c.toNat : Int)) (by simp [hl]) (fun i hi => by
        rw [Nat.zero_add, hW.cell i hi]
        congr 2
        simp only [List.getD, List.getElem?_map, List.getElem?_eq_getElem (show i < (fltT s.data.toList).length by omega)]
        rfl) 9 Tryz.underlying9
      rw [str_of_map] at hcv
      clear hF2 hW htk
      go_wp2_with fail
      go_ret
      exact ⟨rfl, HB.out⟩
end Go.Proofs.YtcleicjgeflbnaaGreatDoor
