/- rule.Text: the parts of a rule's text, joined. Conditions: the rule may be (or not), its rows have at most ten thousand places, the tables are laid. -/
import Derived.Test.YtcleicjgeflbnaaGreatDoorS7
import Derived.Deep.Cut
import Derived.Deep.CutRange
import Derived.Deep.DeepCutAuto
namespace Go.Proofs.YtcleicjgeflbnaaGreatDoor
open Go.RowKit Go.ChangeShapes Go.WideShapes Go.Deep
set_option linter.all false

def pre0 (r : RuleD) : List (List UInt8) := [kFREQ ++ freqT r.freq]
def pre1 (r : RuleD) : List (List UInt8) := pre0 r ++ optP (r.interval ≠ 1) (kINTERVAL ++ Lib.itoa r.interval)
def pre2 (r : RuleD) : List (List UInt8) := pre1 r ++ optP (0 < r.count) (kCOUNT ++ Lib.itoa r.count)
def pre3 (r : RuleD) : List (List UInt8) := pre2 r ++ optP (0 ≤ r.until_) (kUNTIL ++ shortT r.until_)
def pre4 (r : RuleD) : List (List UInt8) := pre3 r ++ rowP kBYMONTH Lib.itoa r.byMonth
def pre5 (r : RuleD) : List (List UInt8) := pre4 r ++ rowP kBYMONTHDAY Lib.itoa r.byMonthDay
def pre6 (r : RuleD) : List (List UInt8) := pre5 r ++ rowP kBYDAY dayNT r.byDay
def pre7 (r : RuleD) : List (List UInt8) := pre6 r ++ rowP kBYSETPOS Lib.itoa r.bySetPos
def pre8 (r : RuleD) : List (List UInt8) := pre7 r ++ optP (0 < r.start) (kWKST ++ dayT r.start)
theorem pre8_eq (r : RuleD) : partsR shortT r = pre8 r := rfl
theorem opt_len (c : Prop) [Decidable c] (x : List UInt8) : (optP c x).length ≤ 1 := by unfold optP; split <;> simp
theorem row_len {α : Type} (k : List UInt8) (f : α → List UInt8) (l : List α) : (rowP k f l).length ≤ 1 := by unfold rowP; split <;> simp
theorem pre_len (r : RuleD) : (pre0 r).length = 1 ∧ (pre1 r).length ≤ 2 ∧ (pre2 r).length ≤ 3 ∧ (pre3 r).length ≤ 4 ∧ (pre4 r).length ≤ 5 ∧ (pre5 r).length ≤ 6 ∧ (pre6 r).length ≤ 7 ∧ (pre7 r).length ≤ 8 ∧ (pre8 r).length ≤ 9 := by
  have a1 := opt_len (r.interval ≠ 1) (kINTERVAL ++ Lib.itoa r.interval)
  have a2 := opt_len (0 < r.count) (kCOUNT ++ Lib.itoa r.count)
  have a3 := opt_len (0 ≤ r.until_) (kUNTIL ++ shortT r.until_)
  have a4 := row_len kBYMONTH Lib.itoa r.byMonth
  have a5 := row_len kBYMONTHDAY Lib.itoa r.byMonthDay
  have a6 := row_len kBYDAY dayNT r.byDay
  have a7 := row_len kBYSETPOS Lib.itoa r.bySetPos
  have a8 := opt_len (0 < r.start) (kWKST ++ dayT r.start)
  unfold pre8 pre7 pre6 pre5 pre4 pre3 pre2 pre1 pre0
  simp only [List.length_append, List.length_cons, List.length_nil]
  refine ⟨?_, ?_, ?_, ?_, ?_, ?_, ?_, ?_, ?_⟩ <;> first | trivial | omega

/-- Where Text stands: the parts so far, the rule's box as it was. -/
structure TS (w WB : World) (pre : List (List UInt8)) (v : Value) (W : World) : Prop where
  own : W.ownsRow (w.heap.size + 1) 9 1 v pre.length (strs pre)
  box : ∀ j, World.cell? W ⟨w.heap.size, j, none⟩ = World.cell? WB ⟨w.heap.size, j, none⟩
  sz : w.heap.size < W.heap.size
  bel : Below w.heap.size w W
theorem TS.below {w WB : World} {pre : List (List UInt8)} {v : Value} {W W' : World} (h : TS w WB pre v W) (hb : Below W.heap.size W W') : TS w WB pre v W' :=
  ⟨own_later h.own hb, fun j => (hb.cell h.sz).trans (h.box j), Nat.lt_of_lt_of_le h.sz hb.size, h.bel.trans (hb.mono h.bel.size)⟩
theorem TS.alloc {w WB : World} {pre : List (List UInt8)} {v : Value} {W : World} (h : TS w WB pre v W) (o : Obj) : TS w WB pre v (W.alloc o) := h.below (belowA o (Below.refl _ _))
theorem TS.grown {w WB : World} {pre pre' : List (List UInt8)} {v v' : Value} {W W' : World} (h : TS w WB pre v W) (ho : W'.ownsRow (w.heap.size + 1) 9 1 v' pre'.length (strs pre')) (hg : W.grownBy W' v.ownBlock) : TS w WB pre' v' W' := by
  have hne : some w.heap.size ≠ v.ownBlock := fun e => by
    have := (h.own.lt w.heap.size e.symm).1
    omega
  have hbk : W'.heap[w.heap.size]? = W.heap[w.heap.size]? := hg.block _ h.sz hne
  exact ⟨ho, fun j => (by unfold World.cell?; rw [hbk] : World.cell? W' ⟨w.heap.size, j, none⟩ = World.cell? W ⟨w.heap.size, j, none⟩).trans (h.box j), Nat.lt_of_lt_of_le h.sz hg.size, h.bel.grown hg h.bel.size fun k hk => by have := (h.own.lt k hk).1; omega⟩

theorem TS.drew {w WB : World} {pre : List (List UInt8)} {v : Value} {W : World} (h : TS w WB pre v W) : TS w WB pre v W.drew := ⟨h.own, h.box, h.sz, h.bel.drew⟩
theorem TS.start {w WB w1 : World} (x : List UInt8) (hb : Below w.heap.size w w1) (hsz : w.heap.size < w1.heap.size) (hbox : ∀ j, World.cell? w1 ⟨w.heap.size, j, none⟩ = World.cell? WB ⟨w.heap.size, j, none⟩) :
    TS w WB [kFREQ ++ x] (.slice (some ⟨w1.heap.size + 1, 0, none⟩) 1 1) ((w1.alloc (.cells freqsC 9)).alloc (.cells #[.string (⟨#[70, 82, 69, 81, 61]⟩ ++ toB x)] 9)) := by
  have hs : (w1.alloc (.cells freqsC 9)).heap.size = w1.heap.size + 1 := by simp
  have hn := heap_alloc_new (w1.alloc (.cells freqsC 9)) (.cells #[.string (⟨#[70, 82, 69, 81, 61]⟩ ++ toB x)] 9)
  rw [hs] at hn
  refine ⟨⟨rfl, .inr ⟨w1.heap.size + 1, 1, _, rfl, by omega, hn, Nat.le_refl _, by unfold maxLen; omega, rfl, ?_⟩⟩, fun j => ?_, ?_, belowA _ (belowA _ hb)⟩
  · rw [show (⟨#[70, 82, 69, 81, 61]⟩ : ByteArray) = toB kFREQ from rfl, toB_append]; rfl
  · rw [← hbox j]
    have h1 : ∀ (o : Obj) (W : World), w.heap.size < W.heap.size → World.cell? (W.alloc o) ⟨w.heap.size, j, none⟩ = World.cell? W ⟨w.heap.size, j, none⟩ := fun o W h => (belowA o (Below.refl W.heap.size W)).cell h
    rw [h1 _ _ (by rw [hs]; omega), h1 _ _ hsz]
  · simp; omega
theorem joinsemi (l : List (List UInt8)) : Lib.join ((l.map toB).map (·.data.toList)) (⟨#[59]⟩ : ByteArray).data.toList = Lib.join l [59] := by
  rw [List.map_map]
  have : ((fun x : ByteArray => x.data.toList) ∘ toB) = id := by funext x; rfl
  rw [this, List.map_id]
theorem rowP_le {α : Type} (k : List UInt8) (f : α → List UInt8) (l : List α) (hk : k.length ≤ 20) (hl : l.length ≤ 10000) (h : ∀ x ∈ l, (f x).length ≤ 30) : lenP (rowP k f l) ≤ 310021 := by
  rw [lenP_row]
  split
  · omega
  · have := join_le (l.map f) 30 (fun y hy => by obtain ⟨x, hx, rfl⟩ := List.mem_map.1 hy; exact h x hx)
    rw [List.length_map] at this
    rw [List.length_append]
    omega
theorem optP_le (c : Prop) [Decidable c] (x : List UInt8) (n : Nat) (h : x.length ≤ n) : lenP (optP c x) ≤ n + 1 := by rw [lenP_opt]; split <;> omega
theorem text_le (r : RuleD) (hf : fewR r) (hfr : (freqT r.freq).length ≤ 7) (h1 : (Lib.itoa r.interval).length ≤ 21) (h2 : (Lib.itoa r.count).length ≤ 21) (h3 : (shortT r.until_).length ≤ 13)
    (h4 : ∀ x ∈ r.byMonth, (Lib.itoa x).length ≤ 30) (h5 : ∀ x ∈ r.byMonthDay, (Lib.itoa x).length ≤ 30) (h6 : ∀ x ∈ r.byDay, (dayNT x).length ≤ 30) (h7 : ∀ x ∈ r.bySetPos, (Lib.itoa x).length ≤ 30) (h8 : (dayT r.start).length ≤ 2) : (Lib.join (pre8 r) [59]).length ≤ 1300000 := by
  rw [show Lib.join (pre8 r) [59] = textR shortT r from rfl]
  have h := text_len shortT r
  have a1 := optP_le (r.interval ≠ 1) (kINTERVAL ++ Lib.itoa r.interval) 40 (by simp [kINTERVAL]; omega)
  have a2 := optP_le (0 < r.count) (kCOUNT ++ Lib.itoa r.count) 40 (by simp [kCOUNT]; omega)
  have a3 := optP_le (0 ≤ r.until_) (kUNTIL ++ shortT r.until_) 40 (by simp [kUNTIL]; omega)
  have a4 := rowP_le kBYMONTH Lib.itoa r.byMonth (by decide) hf.m h4
  have a5 := rowP_le kBYMONTHDAY Lib.itoa r.byMonthDay (by decide) hf.d h5
  have a6 := rowP_le kBYDAY dayNT r.byDay (by decide) hf.y h6
  have a7 := rowP_le kBYSETPOS Lib.itoa r.bySetPos (by decide) hf.p h7
  have a8 := optP_le (0 < r.start) (kWKST ++ dayT r.start) 40 (by simp [kWKST]; omega)
  have a0 : lenP [kFREQ ++ freqT r.freq] ≤ 40 := by simp [lenP, kFREQ]; omega
  unfold partsR at h
  simp only [lenP_append] at h
  omega

theorem row_wfi {w : World} {v : Value} {xs : List Int} (h : Row w 1 (rI .i64) v xs) : ∀ x ∈ xs, wfi .i64 x := fun x hx => by
  obtain ⟨o, n, c, rfl, hl, _, _, he⟩ := h.view
  obtain ⟨i, hi, rfl⟩ := List.getElem_of_mem hx
  obtain ⟨y, a, cs, hy, _, _, hR, _⟩ := he i (by omega)
  rw [List.getElem?_eq_getElem hi] at hy
  cases hy
  exact hR.2
theorem row_wfd {w : World} {v : Value} {xs : List DayND} (h : Row w 2 rDayN v xs) : ∀ x ∈ xs, wfi .i64 x.n := fun x hx => by
  obtain ⟨o, n, c, rfl, hl, _, _, he⟩ := h.view
  obtain ⟨i, hi, rfl⟩ := List.getElem_of_mem hx
  obtain ⟨y, a, cs, hy, _, _, hR, _⟩ := he i (by omega)
  rw [List.getElem?_eq_getElem hi] at hy
  cases hy
  exact hR.2.1
theorem dayT_len (y : Int) : (dayT y).length ≤ 2 := by
  unfold dayT
  have : ∀ k : Nat, (daysL.getD k []).length ≤ 2 := fun k => by
    by_cases h : k < 7
    · have hk : k = 0 ∨ k = 1 ∨ k = 2 ∨ k = 3 ∨ k = 4 ∨ k = 5 ∨ k = 6 := by omega
      rcases hk with rfl | rfl | rfl | rfl | rfl | rfl | rfl <;> decide
    · have : daysL[k]? = none := List.getElem?_eq_none (by simp [daysL]; omega)
      simp [List.getD, this]
  exact this _
theorem dayNT_len (d : DayND) (h : wfi .i64 d.n) : (dayNT d).length ≤ 30 := by
  have h1 := dayT_len d.day
  have h2 := Lib.itoa_length_le d.n (wfi_lo h) (wfi_hi h)
  unfold dayNT
  split
  · omega
  · rw [List.length_append]; omega
theorem bcases (p : Prop) [Decidable p] {b : Bool} (h : b = decide p) : (b = true ∧ Hid p) ∨ (b = false ∧ Hid (¬ p)) := by
  by_cases hp : p
  · exact .inl ⟨by rw [h]; exact decide_eq_true hp, hp⟩
  · exact .inr ⟨by rw [h]; exact decide_eq_false hp, hp⟩

end Go.Proofs.YtcleicjgeflbnaaGreatDoor
