/- The pieces of a text between signs. Plain laws; no condition. The iterator of SplitSeq at a sign: it hands out the pieces, one by one. It keeps what is left in a box of its own. Conditions: the loop's rounds go on, and leave its boxes. A range over an iterator that keeps what is left in a box of its own, by a caller whose rounds go on. Conditions: the rounds leave whatever lay from that box on. SplitSeq at a sign: what it hands back, and the three boxes that it lays. No condition. -/
import Derived.Test.YtcleicjgeflbnaaGreatDoorS8
import Derived.RangeFuncKeeps
import Derived.RangeFuncLeaves
import Derived.OwnWalkIn
import Derived.TacticsInMore
import Derived.LoopNIn
import Derived.LoopIn
import Derived.RangeFuncRecord
namespace Go.Proofs.YtcleicjgeflbnaaGreatDoor
open Go.RowKit Go.ChangeShapes Go.WideShapes Go.Deep
set_option linter.all false

/-- The pieces of a text between signs. -/
def splitc (d : UInt8) : List UInt8 → List (List UInt8)
  | [] => [[]]
  | b :: r => if b = d then [] :: splitc d r else (b :: (splitc d r).headD []) :: (splitc d r).tail
theorem splitc_ne (d : UInt8) : ∀ l, splitc d l ≠ []
  | [] => by simp [splitc]
  | b :: r => by rw [splitc]; split <;> simp
theorem splitc_none (d : UInt8) : ∀ (l : List UInt8), Lib.indexByte l d < 0 → splitc d l = [l]
  | [], _ => rfl
  | b :: r, h => by
    rw [Lib.indexByte] at h
    by_cases hb : b = d
    · subst hb; simp at h
    · have h1 : (b == d) = false := by simpa using hb
      have hge := Lib.indexByte_ge r d
      rw [h1] at h
      simp only [Bool.false_eq_true, if_false] at h
      have hr : Lib.indexByte r d < 0 := by
        by_cases he : (Lib.indexByte r d == -1) = true
        · rw [beq_iff_eq] at he; omega
        · rw [if_neg he] at h; omega
      rw [splitc, if_neg hb, splitc_none d r hr]
      rfl
theorem splitc_some (d : UInt8) : ∀ (l : List UInt8) (i : Nat), Lib.indexByte l d = (i : Int) → splitc d l = l.take i :: splitc d (l.drop (i + 1)) ∧ i < l.length
  | [], i, h => by rw [Lib.indexByte] at h; omega
  | b :: r, i, h => by
    rw [Lib.indexByte] at h
    by_cases hb : b = d
    · subst hb
      simp only [beq_self_eq_true, if_true] at h
      obtain rfl : i = 0 := by omega
      rw [splitc, if_pos rfl]
      exact ⟨rfl, by simp⟩
    · have h1 : (b == d) = false := by simpa using hb
      have hge := Lib.indexByte_ge r d
      rw [h1] at h
      simp only [Bool.false_eq_true, if_false] at h
      by_cases he : (Lib.indexByte r d == -1) = true
      · rw [if_pos he] at h; omega
      · rw [if_neg he] at h
        have hne : Lib.indexByte r d ≠ -1 := by simpa using he
        obtain ⟨k, rfl⟩ : ∃ k, i = k + 1 := ⟨i - 1, by omega⟩
        obtain ⟨e, hl⟩ := splitc_some d r k (by omega)
        rw [splitc, if_neg hb, e]
        exact ⟨rfl, by simp; omega⟩

def splitB (d : UInt8) (s : ByteArray) : List ByteArray := (splitc d s.data.toList).map toB
theorem toB_of (s : ByteArray) : toB s.data.toList = s := by
  apply ByteArray.ext; simp [toB]
theorem extr_list (s : ByteArray) (i j : Nat) : (s.extract i j).data.toList = (s.data.toList.drop i).take (j - i) := by
  rw [ByteArray.data_extract, Array.toList_extract, List.extract_eq_take_drop]
theorem splitB_none (d : UInt8) (s : ByteArray) (h : Lib.indexByte s.data.toList d < 0) : splitB d s = [s] := by
  rw [splitB, splitc_none d _ h]
  simp [toB_of]
theorem splitB_some (d : UInt8) (s : ByteArray) (i : Nat) (h : Lib.indexByte s.data.toList d = (i : Int)) : splitB d s = s.extract 0 i :: splitB d (s.extract (i + 1) s.size) ∧ i < s.size := by
  obtain ⟨e, hl⟩ := splitc_some d _ i h
  have hl' : i < s.size := by simpa using hl
  refine ⟨?_, hl'⟩
  rw [splitB, e, List.map_cons]
  congr 1
  · rw [← toB_of (s.extract 0 i), extr_list]; simp
  · rw [splitB, extr_list]
    congr 2
    rw [List.take_of_length_le]
    have : s.data.toList.length = s.size := by simp
    rw [List.length_drop]; omega
end Go.Proofs.YtcleicjgeflbnaaGreatDoor
namespace Go.Proofs.YtcleicjgeflbnaaGreatDoor
open Go.RowKit Go.ChangeShapes Go.WideShapes Go.Deep
set_option linter.all false
attribute [local go_sem] Oper.semAt_some

/-- How much is left, read off the box. -/
def leftIn (c : Nat) (W : World) : Nat := match W.cell? ⟨c, 0, none⟩ with | some (.string s) => s.size | _ => 0

set_option maxRecDepth 100000 in
set_option maxHeartbeats 4000000 in
theorem split_in (d : UInt8) (n l c : Nat) (s : ByteArray) (J : List ByteArray → World → Prop) (W : World)
    (hJ : ∀ pre W v, J pre W → J pre (W.setCell ⟨c, 0, none⟩ v))
    (hY : ∀ pre x W, (∃ post, splitB d s = pre ++ x :: post) → J pre W → YieldAt Fence.wide (n - 1) Tryz.prog l #[.string x] W fun e W' => e = .returned (.bool true) ∧ J (pre ++ [x]) W' ∧ ∀ k, c ≤ k → k ≤ c + 2 → W'.heap[k]? = W.heap[k]?)
    (h0 : W.heap[c]? = some (.cells #[.string s] 9 (0, 0))) (h1 : W.heap[c + 1]? = some (.cells #[.string ⟨#[d]⟩] 9 (0, 0))) (h2 : W.heap[c + 2]? = some (.cells #[.int .i64 0] 3 (0, 0))) (hs : s.size ≤ 1000000) (hj : J [] W) :
    CallsIn Fence.wide n Tryz.prog 71 #[.func (.yield l) #[] #[], .pointer (some ⟨c + 1, 0, none⟩), .pointer (some ⟨c, 0, none⟩), .pointer (some ⟨c + 2, 0, none⟩)] W fun e W' => (∃ v, e = .returned v) ∧ J (splitB d s) W' := by
  have c1 : W.cell? ⟨c + 1, 0, none⟩ = some (.string ⟨#[d]⟩) := by rw [cell_of_row _ _ _ _ _ _ h1]; rfl
  refine callsIn_of_wp Tryz.func71 rfl trivial ?_ rfl
  simp only [Tryz.ntmps71, List.size_toArray, List.length_cons, List.length_nil, Nat.reduceAdd, Nat.reduceSub, Array.replicate_succ, Array.replicate_zero, List.push_toArray, List.append_toArray, List.nil_append, List.cons_append]
  gi_wp2
  gi_loopw [7] (fun _ wr => ∃ (pre : List ByteArray) (r : ByteArray), wr.heap[c]? = some (.cells #[.string r] 9 (0, 0)) ∧ wr.heap[c + 1]? = some (.cells #[.string ⟨#[d]⟩] 9 (0, 0)) ∧ wr.heap[c + 2]? = some (.cells #[.int .i64 0] 3 (0, 0)) ∧ r.size ≤ 1000000 ∧ splitB d s = pre ++ splitB d r ∧ J pre wr)
    (fun _ wr => leftIn c wr)
  case atStart => exact ⟨[], s, h0, h1, h2, hs, rfl, hj⟩
  case round =>
    obtain ⟨pre, r, hc, hc1, hc2, hr, hsp, hJs⟩ := hrel
    have c0 : wr.cell? ⟨c, 0, none⟩ = some (.string r) := by rw [cell_of_row _ _ _ _ _ _ hc]; rfl
    have c1' : wr.cell? ⟨c + 1, 0, none⟩ = some (.string ⟨#[d]⟩) := by rw [cell_of_row _ _ _ _ _ _ hc1]; rfl
    have c2' : wr.cell? ⟨c + 2, 0, none⟩ = some (.int .i64 0) := by rw [cell_of_row _ _ _ _ _ _ hc2]; rfl
    have hge := Lib.indexByte_ge r.data.toList d
    have HJ := Lib.hid hJ; have HSP := Lib.hid hsp; have HC := Lib.hid (And.intro hc (And.intro hc1 hc2)); have HC0 := Lib.hid c0
    by_cases hi : Lib.indexByte r.data.toList d < 0
    · have e : splitB d r = [r] := splitB_none d r hi
      have d1 := decide_eq_true hi
      obtain ⟨fn, tmps, assign, body, hy, hR⟩ := hY pre r wr ⟨[], by rw [hsp, e]⟩ hJs
      have HY := Lib.hid hy; have HR := Lib.hid hR; have HE := Lib.hid e
      clear c1 h0 h1 h2 hj hs hY hR e hc hc1 hc2 hsp hJ
      gi_wp2
      refine ⟨trivial, (fun h => by cases h), ?_⟩
      refine (callsIn_wide.2 (Tryz.strings_Index_one r d _)).mono ?_
      rintro e w' ⟨rfl, rfl⟩
      gi_wp2
      refine ⟨(fun h => by cases h), ?_⟩
      refine HR.out.mono ?_
      rintro e W3 ⟨rfl, hJ', -⟩
      gi_wp2
      go_end0
      exact ⟨⟨_, rfl⟩, by rw [HSP.out, HE.out]; exact hJ'⟩
    · obtain ⟨i, hi'⟩ : ∃ i : Nat, Lib.indexByte r.data.toList d = (i : Int) := ⟨(Lib.indexByte r.data.toList d).toNat, by omega⟩
      obtain ⟨e, hlt⟩ := splitB_some d r i hi'
      have hlt' : (i : Int) < (r.size : Int) := by omega
      have hr' : (r.size : Int) ≤ 1000000 := by omega
      have d1 : ¬ (i : Int) < 0 := by omega
      obtain ⟨fn, tmps, assign, body, hy, hR⟩ := hY pre (r.extract 0 i) wr ⟨splitB d (r.extract (i + 1) r.size), by rw [hsp, e]⟩ hJs
      have HY := Lib.hid hy; have HR := Lib.hid hR; have HE := Lib.hid e
      have hw1 : wrap64 ((i : Int) + 0) = (i : Int) := by unfold wrap64; omega
      have hw2 : wrap64 ((i : Int) + 1) = ((i + 1 : Nat) : Int) := by unfold wrap64; omega
      have hsz : r.size ≤ 1000000 := hr
      clear c1 h0 h1 h2 hj hs hY hR e hc hc1 hc2 hsp hJ hi hge
      gi_wp2
      refine ⟨trivial, (fun h => by cases h), ?_⟩
      refine (callsIn_wide.2 (Tryz.strings_Index_one r d _)).mono ?_
      rintro e w' ⟨rfl, rfl⟩
      rw [hi']
      gi_wp2
      refine ⟨(fun h => by cases h), ?_⟩
      refine HR.out.mono ?_
      rintro e W3 ⟨rfl, hJ', hk⟩
      have k0 : W3.heap[c]? = some (.cells #[.string r] 9 (0, 0)) := (hk c (Nat.le_refl _) (by omega)).trans HC.out.1
      have k1 : W3.heap[c + 1]? = some (.cells #[.string ⟨#[d]⟩] 9 (0, 0)) := (hk (c + 1) (by omega) (by omega)).trans HC.out.2.1
      have k2 : W3.heap[c + 2]? = some (.cells #[.int .i64 0] 3 (0, 0)) := (hk (c + 2) (by omega) (Nat.le_refl _)).trans HC.out.2.2
      have d0 : W3.cell? ⟨c, 0, none⟩ = some (.string r) := by rw [cell_of_row _ _ _ _ _ _ k0]; rfl
      have d1' : W3.cell? ⟨c + 1, 0, none⟩ = some (.string ⟨#[d]⟩) := by rw [cell_of_row _ _ _ _ _ _ k1]; rfl
      have f0 : W3.frozen? ⟨c, 0, none⟩ = false := frozen_of_row _ _ _ _ _ k0
      have K0 := Lib.hid k0; have K1 := Lib.hid k1; have K2 := Lib.hid k2; have HJ3 := Lib.hid hJ'
      clear c0 c1' c2' hk k0 k1 k2 hJ' hy hJs
      gi_wp2
      go_roundw
      case measure =>
        have e1 : leftIn c (W3.setCell ⟨c, 0, none⟩ (.string (r.extract (i + 1) r.size))) = (r.extract (i + 1) r.size).size := by
          rw [leftIn, World.cell?_setCell_same' _ _ _ (by rw [d0]; rfl)]
        rw [e1, leftIn, HC0.out]
        simp only [ByteArray.size_extract]
        omega
      case rel =>
        refine ⟨pre ++ [r.extract 0 i], r.extract (i + 1) r.size, ?_, ?_, ?_, ?_, ?_, HJ.out _ _ _ HJ3.out⟩
        · exact (heap_setCell_same _ _ _ _ _ _ K0.out)
        · exact (Below.heap_setCell _ _ _ _ (by simp only; omega)).trans K1.out
        · exact (Below.heap_setCell _ _ _ _ (by simp only; omega)).trans K2.out
        · simp only [ByteArray.size_extract]; omega
        · rw [HSP.out, HE.out]; simp
end Go.Proofs.YtcleicjgeflbnaaGreatDoor
namespace Go.Proofs.YtcleicjgeflbnaaGreatDoor
open Go.RowKit Go.ChangeShapes Go.WideShapes Go.Deep
set_option linter.all false

/-- But for the iterator's box c and the loop's two blocks at B, whatever lay lies as it lay; the streams are as they were. -/
structure Turned (B c : Nat) (W W' : World) : Prop where
  os : W'.os = W.os
  tape : W'.tape = W.tape
  output : W'.output = W.output
  size : W.heap.size ≤ W'.heap.size
  block : ∀ k, k < W.heap.size → k ≠ c → k ≠ B → k ≠ B + 1 → W'.heap[k]? = W.heap[k]?
theorem Turned.alloc {B c : Nat} (W : World) (o : Obj) : Turned B c W (W.alloc o) :=
  ⟨rfl, rfl, rfl, by simp, fun k hk _ _ _ => Below.heap_alloc _ _ _ hk⟩
theorem Turned.put {B c : Nat} (W : World) (l : Nat) (o : Obj) (h : l = B ∨ l = B + 1) : Turned B c W (W.putObj l o) :=
  ⟨rfl, rfl, rfl, by simp, fun k _ _ h1 h2 => World.putObj_heap_other (by omega)⟩
theorem Turned.cell {B c : Nat} (W : World) (v : Value) : Turned B c W (W.setCell ⟨c, 0, none⟩ v) :=
  ⟨rfl, rfl, rfl, by simp [World.setCell], fun k _ hk _ _ => Below.heap_setCell _ _ _ _ hk⟩

/-- How the body of a round is left: off its end, and the iterator's boxes and the loop's blocks lie as they lay. -/
def roundEnds (c B : Nat) (R : World → Prop) (W : World) : Exit → Act → World → Prop
  | .normal, _, W' => (∀ k, c ≤ k → k ≤ c + 2 ∨ k = B ∨ k = B + 1 → W'.heap[k]? = W.heap[k]?) ∧ R W'
  | _, _, _ => False

theorem range_box {α : Type} {P : Program} (n c : Nat) {g : Operand} {ps : Array Tmp} {assign body : Code} {Q : Exit → Act → World → Prop} {a : Act} {w : World} {gf : Nat} {lb : Array Value}
    (hg : a.eval g = .func (.func gf) #[] lb) (eg : ∀ args w, (callFunc gf args).run P w = .ok (.enter gf args) w) {encs : α → Array Value} (hps : ∀ x, (encs x).size = ps.size) (ys : List α)
    (I : List α → World → Prop) (hc : c < w.heap.size) (hI : ∀ pre W W', Turned w.heap.size c W W' → I pre W → I pre W') (h0 : I [] w) (a₁ : α → Act)
    (hassign : ∀ (l : Nat) (x : α) (W : World) (K : Act → World → Prop), K (a₁ x) W →
      assign.wpIn (Fence.wide.inRound l) (n - 1 - 1) P (Exit.then K (fun _ _ _ => False)) { tmps := (ps.zip (encs x)).foldl (fun t (p, v) => t.setIfInBounds p v) a.tmps, defers := [] } W)
    (hbody : ∀ (l : Nat) (pre : List α) (x : α) (W : World), w.heap.size + 1 < W.heap.size → (∃ post, ys = pre ++ x :: post) → I pre W → body.wpIn (Fence.wide.inRound l) (n - 1 - 1) P (roundEnds c w.heap.size (I (pre ++ [x])) W) (a₁ x) W)
    (hseq : ∀ (l : Nat) (J : List α → World → Prop) (W1 : World), (∀ k, k < w.heap.size → W1.heap[k]? = w.heap[k]?) → (∀ pre W v, J pre W → J pre (W.setCell ⟨c, 0, none⟩ v)) →
      (∀ pre x W, (∃ post, ys = pre ++ x :: post) → J pre W → YieldAt Fence.wide (n - 1 - 1) P l (encs x) W fun e W' => e = .returned (.bool true) ∧ J (pre ++ [x]) W' ∧ ∀ k, c ≤ k → k ≤ c + 2 → W'.heap[k]? = W.heap[k]?) → J [] W1 →
      CallsIn Fence.wide (n - 1) P gf (#[.func (.yield l) #[] #[]] ++ lb) W1 fun e W' => (∃ v, e = .returned v) ∧ J ys W')
    (hc2 : c + 2 < w.heap.size)
    (hdone : ∀ W, I ys W → W.heap[w.heap.size]? = some (.deferred (some [])) → w.heap.size < W.heap.size → Q .normal { a with defers := { target := .collected w.heap.size, args := #[] } :: a.defers } W) :
    (Code.rangeFunc g ps assign body).wpIn Fence.wide n P Q a w := by
  refine wpIn_rangeFunc fun fn _ => ?_
  let rec_ : LoopState → Loop := fun st => { state := st, pending := none, fn, tmps := a.tmps, params := ps, assign, body, defers := w.heap.size }
  let W1 := (w.alloc (.deferred (some []))).alloc (.loop (rec_ .ready))
  have hB : w.heap.size ≤ w.heap.size := Nat.le_refl _
  have hD : W1.heap[w.heap.size]? = some (.deferred (some [])) := (Below.heap_alloc _ _ _ (by simp)).trans (World.alloc_heap_new w _)
  have hL : W1.heap[w.heap.size + 1]? = some (.loop (rec_ .ready)) := by
    have := World.alloc_heap_new (w.alloc (.deferred (some []))) (.loop (rec_ .ready))
    rwa [World.size_alloc] at this
  have hI1 : I [] W1 := hI _ _ _ (Turned.alloc _ _) (hI _ _ _ (Turned.alloc _ _) h0)
  refine ⟨w.heap.size + 1, [{ target := .collected w.heap.size, args := #[] }], W1, { target := .fn (.func gf) lb, args := #[.func (.yield (w.heap.size + 1)) #[] #[]] }, W1, gf, #[.func (.yield (w.heap.size + 1)) #[] #[]] ++ lb, W1, run_enterLoop_outer _ _ _ _ _, ?_, fun _ _ => trivial, ?_, (fun h => by cases h), ?_⟩
  · simp only [resolve, hg]
    simp [go_sem]
  · simp [invoke, go_sem, eg]
  · refine (hseq (w.heap.size + 1) (fun pre W => I pre W ∧ W.heap[w.heap.size + 1]? = some (.loop (rec_ .ready)) ∧ W.heap[w.heap.size]? = some (.deferred (some []))) W1
      (fun k hk => (Below.heap_alloc _ _ _ (by simp; omega)).trans (Below.heap_alloc _ _ _ hk))
      (fun pre W v ⟨h1, h2, h3⟩ => ⟨hI _ _ _ (Turned.cell _ _) h1, (Below.heap_setCell _ _ _ _ (by simp only; omega)).trans h2, (Below.heap_setCell _ _ _ _ (by simp only; omega)).trans h3⟩) ?_ ⟨hI1, hL, hD⟩).mono ?_
    · rintro pre x W hpx ⟨h1, h2, h3⟩
      have hy := run_yield (P := P) (args := encs x) h2 (hps x)
      refine ⟨fn, _, assign, body, hy, roundIn_of_wpIn trivial (hassign _ x W _ ⟨_, run_beginRound h2 rfl, ?_⟩)⟩
      have hlt := (Array.getElem?_eq_some_iff.1 h2).1
      have g2 : (W.putObj (w.heap.size + 1) (.loop { rec_ .ready with state := .busy })).heap[w.heap.size + 1]? = some (.loop { rec_ .ready with state := .busy }) := World.putObj_heap_same hlt
      have g3 := (World.putObj_heap_other (w := W) (o := .loop { rec_ .ready with state := .busy }) (show w.heap.size ≠ w.heap.size + 1 by omega)).trans h3
      refine wpIn_mono (hbody _ pre x _ (by rw [World.putObj_size]; exact hlt) hpx (hI _ _ _ (Turned.put _ _ _ (by omega)) h1)) ?_
      rintro e a3 W3 hp
      cases e with
      | normal =>
        obtain ⟨hk, hi⟩ := hp
        have k2 := (hk (w.heap.size + 1) (by omega) (by omega)).trans g2
        have k3 := (hk w.heap.size (by omega) (by omega)).trans g3
        refine ⟨_, _, run_endRound none k2, rfl, ⟨hI _ _ _ (Turned.put _ _ _ (by omega)) hi, World.putObj_heap_same (Array.getElem?_eq_some_iff.1 k2).1, (World.putObj_heap_other (by omega)).trans k3⟩, fun k hk1 hk2 => ?_⟩
        exact (World.putObj_heap_other (by omega)).trans ((hk k hk1 (by omega)).trans (World.putObj_heap_other (by omega)))
      | ret => exact hp.elim
      | exit id => exact hp.elim
      | goto t => exact hp.elim
      | panic ch => exact hp.elim
      | outgrown => exact hp.elim
    · rintro e W2 ⟨⟨v, rfl⟩, h1, h2, h3⟩
      exact ⟨none, _, run_endLoop h2 (by simp [rec_]), hdone _ (hI _ _ _ (Turned.put _ _ _ (by omega)) h1) ((World.putObj_heap_other (by omega)).trans h3) (by have := (Array.getElem?_eq_some_iff.1 h3).1; simpa using this)⟩
end Go.Proofs.YtcleicjgeflbnaaGreatDoor
namespace Go.Proofs.YtcleicjgeflbnaaGreatDoor
open Go.RowKit Go.ChangeShapes Go.WideShapes Go.Deep
set_option linter.all false

/-- The world behind SplitSeq. -/
def splitW (d : UInt8) (s : ByteArray) (W : World) : World := ((W.alloc (.cells #[.string s] 9)).alloc (.cells #[.string ⟨#[d]⟩] 9)).alloc (.cells #[.int .i64 0] 3)

theorem splitSeq_any (d : UInt8) (s : ByteArray) (W : World) :
    Calls Tryz.prog 51 #[.string s, .string ⟨#[d]⟩, .int .i64 0] W fun e w' => e = .returned (.func (.func 71) #[] #[.pointer (some ⟨W.heap.size + 1, 0, none⟩), .pointer (some ⟨W.heap.size, 0, none⟩), .pointer (some ⟨W.heap.size + 2, 0, none⟩)]) ∧ w' = splitW d s W := by
  go_enter Tryz.func51, Tryz.ntmps51
  go_wp2_with fail
  go_ret
  exact ⟨rfl, rfl⟩
theorem SplitSeq_any (d : UInt8) (s : ByteArray) (W : World) :
    Calls Tryz.prog 17 #[.string s, .string ⟨#[d]⟩] W fun e w' => e = .returned (.func (.func 71) #[] #[.pointer (some ⟨W.heap.size + 1, 0, none⟩), .pointer (some ⟨W.heap.size, 0, none⟩), .pointer (some ⟨W.heap.size + 2, 0, none⟩)]) ∧ w' = splitW d s W := by
  have C := Lib.hid (splitSeq_any d s W)
  go_enter Tryz.func17, Tryz.ntmps17
  go_wp2_with fail
  (with_reducible refine C.out.mono ?_)
  rintro e w' ⟨rfl, rfl⟩
  go_wp2_with fail
  go_ret
  exact ⟨rfl, rfl⟩

/-- Marks on an activation that came from ranges over functions are taken in, one by one. -/
abbrev markOf (D : Nat) : Deferred := { target := .collected D, args := #[] }
theorem leaves_marks {F : Fence} {n : Nat} {P : Program} {fn : Func} {tmps : Array Value} {R : Ending → World → Prop} {u : FrameMode} (hu : u ≠ .run) : ∀ (Ds : List Nat) (W : World), Ds.Nodup → (∀ D ∈ Ds, W.heap[D]? = some (.deferred (some []))) →
    (∀ W', (∀ k, k ∉ Ds → W'.heap[k]? = W.heap[k]?) → W'.os = W.os → W'.tape = W.tape → W'.output = W.output → W.heap.size ≤ W'.heap.size → LeavesIn F n P fn tmps R [] u W') → LeavesInM F n P fn tmps R (Ds.map markOf) u W
  | [], W, _, _, h => h W (fun _ _ => rfl) rfl rfl rfl (Nat.le_refl _)
  | D :: Ds, W, hn, hK, h => by
    have hn' := List.nodup_cons.1 hn
    refine ⟨hu, .inl ⟨D, _, rfl, run_takeDeferred (hK D (List.mem_cons_self ..)), ?_⟩⟩
    refine leaves_marks hu Ds _ hn'.2 (fun E hE => ?_) (fun W' h1 h2 h3 h4 h5 => h W' (fun k hk => ?_) h2 h3 h4 (by simpa using h5))
    · exact (World.putObj_heap_other (fun e => hn'.1 (by rw [← e]; exact hE))).trans (hK E (List.mem_cons_of_mem _ hE))
    · rw [List.mem_cons, not_or] at hk
      exact (h1 k hk.2).trans (World.putObj_heap_other hk.1)
end Go.Proofs.YtcleicjgeflbnaaGreatDoor
