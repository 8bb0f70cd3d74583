/- event.changed. Conditions: at most ten thousand changes. event.plain's closure; slices.IndexFunc, DeleteFunc with it. -/
import Derived.Test.YtechgcjdigpglaaGreatQ4
import Derived.Lib.SlKept
import Derived.Lib.SliceRun
namespace Go.Proofs.YtechgcjdigpglaaGreat
open Go.RowKit Go.ChangeShapes Go.WideShapes Go.Deep
set_option linter.all false

theorem isAt_any (c : ChangeD) (x : Int) (b : Nat) (w : World) (hb : b < w.heap.size) (hc : w.cell? ⟨b, 0, none⟩ = some (.int .i64 x)) :
    Calls Tryz.prog 134 #[.agg #[.int .i64 c.at_, .int .i64 c.start, .int .i64 c.long], .pointer (some ⟨b, 0, none⟩)] w fun e w' => e = .returned (.bool (c.at_ == x)) ∧ Below w.heap.size w w' := by
  have HB := Lib.hid (show Below w.heap.size w (w.alloc (.cells #[.int .i64 c.at_, .int .i64 c.start, .int .i64 c.long] 44)) from belowA _ (Below.refl _ _))
  go_enter Tryz.func134, Tryz.ntmps134
  go_wp2_with fail
  go_ret
  exact ⟨rfl, HB.out⟩

set_option maxHeartbeats 4000000 in
set_option maxRecDepth 100000 in
theorem idxC_any (o : Option Addr) (n c : Nat) (xs : List ChangeD) (x : Int) (b : Nat) (w : World) (h : Row w 3 rChange (.slice o n c) xs) (hn : n ≤ 10000) (hb : b < w.heap.size) (hc : w.cell? ⟨b, 0, none⟩ = some (.int .i64 x)) :
    Calls Tryz.prog 184 #[.slice o n c, .func (.func 134) #[] #[.pointer (some ⟨b, 0, none⟩)]] w fun e w' => (∃ i : Int, e = .returned (.int .i64 i) ∧ -1 ≤ i ∧ (0 ≤ i ↔ ∃ c ∈ xs, c.at_ = x)) ∧ Below w.heap.size w w' := by
  have S := Lib.hid h
  have L := Lib.hid h.len
  have C := Lib.hid (fun cc W (hw : Below w.heap.size w W) => isAt_any cc x b W (Nat.lt_of_lt_of_le hb hw.size) ((hw.cell (p := ⟨b, 0, none⟩) hb).trans hc))
  clear h hb hc
  go_enter Tryz.func184, Tryz.ntmps184
  go_wp2_with fail
  go_loopw [8] (fun i wr => ∃ k : Nat, k ≤ n ∧ i = .int .i64 (k : Nat) ∧ Hid (Below w.heap.size w wr) ∧ Hid (∀ j c, j < k → xs[j]? = some c → c.at_ ≠ x)) (fun i _ => n - (intOf i).toNat)
  case atStart => exact ⟨0, Nat.zero_le _, rfl, Lib.hid (Below.refl _ _), fun j c h => absurd h (Nat.not_lt_zero _)⟩
  case round =>
    obtain ⟨k, hk, rfl, HB, I⟩ := hrel
    obtain ⟨wl, rfl⟩ : ∃ x, x = wr := ⟨_, rfl⟩
    by_cases hlt : k < n
    · have hlt' : (k : Int) < (n : Int) := by omega
      obtain ⟨y, a1, cs1, hx, rfl, q1, ⟨rfl, _, _⟩, q0, q2⟩ := S.out.elem HB.out k hlt
      have e0 := q0 (by decide)
      have e1 := q2 1 (by decide) (by decide)
      have e2 := q2 2 (by decide) (by decide)
      simp only [List.getElem?_cons_zero, List.getElem?_cons_succ] at e0 e1 e2
      have HX := Lib.hid hx
      have C1 := Lib.hid (C.out y wl HB.out)
      clear q0 q1 q2 hx
      by_cases hxy : y.at_ = x
      · have b1 : (y.at_ == x) = true := by simpa using hxy
        have HM := Lib.hid (show ∃ c ∈ xs, c.at_ = x from ⟨y, List.mem_of_getElem? HX.out, hxy⟩)
        clear hxy
        go_wp2_with fail
        (with_reducible refine C1.out.mono ?_)
        rintro e w1 ⟨rfl, hb1⟩
        have HB1 := Lib.hid (below_call HB.out hb1)
        clear hb1
        go_wp2_with fail
        go_ret
        exact ⟨⟨_, rfl, by omega, fun _ => HM.out, fun _ => by omega⟩, HB1.out⟩
      · have b1 : (y.at_ == x) = false := by simpa using hxy
        have J := Lib.hid (show ∀ j c, j < k + 1 → xs[j]? = some c → c.at_ ≠ x from fun j c hj hc => by
          by_cases e : j = k
          · subst e; rw [HX.out] at hc; cases hc; exact hxy
          · exact I.out j c (by omega) hc)
        clear hxy
        go_wp2_with fail
        (with_reducible refine C1.out.mono ?_)
        rintro e w1 ⟨rfl, hb1⟩
        have HB1 := Lib.hid (below_call HB.out hb1)
        clear hb1
        go_wp2_with fail
        go_roundw
        case measure => simp [intOf]; omega
        case rel => exact ⟨k + 1, by omega, by go_num, HB1, J.out⟩
    · go_wp2_with fail
      go_ret
      exact ⟨⟨-1, rfl, by omega, fun h => absurd h (by omega), fun ⟨c, hc, hx⟩ => by
        obtain ⟨j, hj⟩ := List.getElem?_of_mem hc
        exact absurd hx (I.out j c (by have := (List.getElem?_eq_some_iff.1 hj).1; have := L.out; omega) hj)⟩, HB.out⟩

/-- Is a time changed. -/
def changedE (e : EventD) (x : Int) : Prop := ∃ c ∈ e.changes, c.at_ = x

theorem contC_any (o : Option Addr) (n c : Nat) (xs : List ChangeD) (x : Int) (b : Nat) (w : World) (h : Row w 3 rChange (.slice o n c) xs) (hn : n ≤ 10000) (hb : b < w.heap.size) (hc : w.cell? ⟨b, 0, none⟩ = some (.int .i64 x)) :
    Calls Tryz.prog 133 #[.slice o n c, .func (.func 134) #[] #[.pointer (some ⟨b, 0, none⟩)]] w fun e w' => e = .returned (.bool (dec (∃ c ∈ xs, c.at_ = x))) ∧ Below w.heap.size w w' := by
  have C := Lib.hid (idxC_any o n c xs x b w h hn hb hc)
  clear h hn hb hc
  go_enter Tryz.func133, Tryz.ntmps133
  go_wp2_with fail
  (with_reducible refine C.out.mono ?_)
  rintro e w1 ⟨⟨i, rfl, hi1, hi2⟩, hb1⟩
  have HI := Lib.hid (And.intro hi2 hb1)
  clear hi2 hb1
  by_cases h : 0 ≤ i
  · have d1 := decide_eq_true h
    have HP := Lib.hid (HI.out.1.1 h)
    go_wp2_with fail
    go_ret
    exact ⟨ret_t HP.out, HI.out.2⟩
  · have d1 := decide_eq_false h
    have HP := Lib.hid (fun hx => h (HI.out.1.2 hx))
    go_wp2_with fail
    go_ret
    exact ⟨ret_f HP.out, HI.out.2⟩

set_option maxHeartbeats 4000000 in
theorem changed_any (cs : List Value) (e : EventD) (x : Int) (w : World) (h : rEvent w cs e) (hf : fewE e) :
    Calls Tryz.prog 93 #[.agg cs.toArray, .int .i64 x] w fun r w' => r = .returned (.bool (dec (changedE e x))) ∧ Below w.heap.size w w' := by
  obtain ⟨om, nm, cm, od, nd, cd, oy, ny, cy, op, np, cp, oe, ne, ce, ol, nl, cl, oc, nc, cc, rfl, SR, l1, l2, l3, R1, R2, R3, -, -⟩ := h.opn
  have HB := Lib.hid (show Below w.heap.size w ((w.alloc (.cells #[.int .i64 e.start, .int .i64 e.long, .bool e.world, .bool e.again, .int .i64 e.rule.freq, .int .i64 e.rule.interval, .int .i64 e.rule.count, .int .i64 e.rule.until_, .slice om nm cm, .slice od nd cd, .slice oy ny cy, .slice op np cp, .int .i64 e.rule.start, .slice oe ne ce, .slice ol nl cl, .slice oc nc cc] 32)).alloc (.cells #[.int .i64 x] 2)) from belowA _ (belowA _ (Below.refl _ _)))
  have C := Lib.hid (contC_any oc nc cc e.changes x (w.heap.size + 1) ((w.alloc (.cells #[.int .i64 e.start, .int .i64 e.long, .bool e.world, .bool e.again, .int .i64 e.rule.freq, .int .i64 e.rule.interval, .int .i64 e.rule.count, .int .i64 e.rule.until_, .slice om nm cm, .slice od nd cd, .slice oy ny cy, .slice op np cp, .int .i64 e.rule.start, .slice oe ne ce, .slice ol nl cl, .slice oc nc cc] 32)).alloc (.cells #[.int .i64 x] 2)) (R3.later' HB.out) (by have := hf.c; omega) (by simp) (by have h9 := (BxAt.new (w.alloc (.cells #[.int .i64 e.start, .int .i64 e.long, .bool e.world, .bool e.again, .int .i64 e.rule.freq, .int .i64 e.rule.interval, .int .i64 e.rule.count, .int .i64 e.rule.until_, .slice om nm cm, .slice od nd cd, .slice oy ny cy, .slice op np cp, .int .i64 e.rule.start, .slice oe ne ce, .slice ol nl cl, .slice oc nc cc] 32)) #[.int .i64 x] 2).cell 0; simpa using h9))
  clear SR l1 l2 l3 R1 R2 R3 hf h
  go_enter Tryz.func93, Tryz.ntmps93
  go_wp2_with fail
  (with_reducible refine C.out.mono ?_)
  rintro q w1 ⟨rfl, hb1⟩
  have HB1 := Lib.hid (below_call HB.out hb1 (by simp <;> omega))
  clear hb1
  go_wp2_with fail
  go_ret
  exact ⟨rfl, HB1.out⟩
end Go.Proofs.YtechgcjdigpglaaGreat
namespace Go.Proofs.YtechgcjdigpglaaGreat
open Go.RowKit Go.ChangeShapes Go.WideShapes Go.Deep Go.Sort Go.Lib
set_option linter.all false

/-- Is a time struck. -/
def struckE (e : EventD) (x : Int) : Prop := x ∈ e.ex ∨ changedE e x

set_option maxHeartbeats 8000000 in
theorem struck_any (cs : List Value) (e : EventD) (x : Int) (b : Nat) (w0 W : World) (h : rEvent w0 cs e) (hf : fewE e) (hm : mayE e) (ha : e.again = true) (hx : BxAt b cs.toArray W) (hb : Below w0.heap.size w0 W) :
    Calls Tryz.prog 92 #[.int .i64 x, .pointer (some ⟨b, 0, none⟩)] W fun r w' => r = .returned (.bool (dec (struckE e x))) ∧ Below W.heap.size W w' := by
  have SE := Lib.hid h
  obtain ⟨om, nm, cm, od, nd, cd, oy, ny, cy, op, np, cp, oe, ne, ce, ol, nl, cl, oc, nc, cc, rfl, SR, l1, l2, l3, R1, R2, R3, -, -⟩ := h.opn
  have kA := hx.cell
  have hlt := hx.lt
  have hbs := hb.size
  have CX0 := Lib.hid (hasE_any _ _ x W (R1.later' hb) (rises_pairwise (hm.2.2.2.2 ha).2.2.1.2.1) hf.x)
  have CC := Lib.hid (fun (W2 : World) (hb2 : Below W.heap.size W W2) => changed_any _ e x W2 (SE.out.later (hb.trans (hb2.mono hbs))) hf)
  clear SE R1 R2 R3 SR l1 l2 l3 hf h hx hm ha
  by_cases hx : x ∈ e.ex
  · have CX := Lib.hid (c_t CX0.out hx)
    have HX := Lib.hid hx
    clear hx CX0 CC
    go_enter Tryz.func92, Tryz.ntmps92
    go_wp2_with (go_at_call 60; ((with_reducible refine CX.out.mono ?_)); rintro q w1 ⟨rfl, hb1⟩; have HB1 := Lib.hid hb1; clear hb1)
    go_ret
    exact ⟨ret_t (.inl HX.out), HB1.out⟩
  · have CX := Lib.hid (c_f CX0.out hx)
    have HX := Lib.hid hx
    clear hx CX0
    go_enter Tryz.func92, Tryz.ntmps92
    go_wp2_with (first
      | (go_at_call 60; ((with_reducible refine CX.out.mono ?_)); rintro q w1 ⟨rfl, hb1⟩; have kA1 : ∀ j, World.cell? w1 ⟨b, j, none⟩ = _ := fun j => (hb1.cell hlt).trans (kA j); have HB1 := Lib.hid hb1; clear hb1)
      | (go_at_call 93; ((with_reducible refine (CC.out _ HB1.out).mono ?_)); rintro q w2 ⟨rfl, hb2⟩; have HB2 := Lib.hid (below_call HB1.out hb2 (Nat.le_refl _)); clear hb2))
    go_ret
    refine ⟨ret_dec ?_, HB2.out⟩
    rw [dec_iff]
    exact ⟨fun h => .inr h, fun h => h.resolve_left HX.out⟩

set_option maxHeartbeats 4000000 in
set_option maxRecDepth 100000 in
theorem idxD_any (P : Int → Prop) (B : Nat) (w0 : World) (p : Value) (PR : ∀ x W, Below B w0 W → Calls Tryz.prog 92 #[.int .i64 x, p] W fun r w' => r = .returned (.bool (dec (P x))) ∧ Below W.heap.size W w')
    (o : Option Addr) (n c : Nat) (xs : List Int) (w : World) (hc : ∀ k x, xs[k]? = some x → ∃ a, o = some a ∧ w.cell? (a.add k) = some (.int .i64 x)) (hl : xs.length = n) (hn : n ≤ 1000000) (hb : Below B w0 w) (hB : B ≤ w.heap.size) :
    Calls Tryz.prog 132 #[.slice o n c, .func (.func 92) #[] #[p]] w fun e w' => ((e = .returned (.int .i64 (-1)) ∧ ∀ x ∈ xs, ¬ P x) ∨ ∃ k x, e = .returned (.int .i64 (k : Nat)) ∧ xs[k]? = some x ∧ P x ∧ ∀ j y, j < k → xs[j]? = some y → ¬ P y) ∧ Below w.heap.size w w' := by
  have S := Lib.hid hc
  have L := Lib.hid hl
  have C := Lib.hid (fun x W (hw : Below w.heap.size w W) => PR x W (hb.trans (hw.mono hB)))
  clear hc hl PR hb hB
  go_enter Tryz.func132, Tryz.ntmps132
  go_wp2_with fail
  go_loopw [8] (fun i wr => ∃ k : Nat, k ≤ n ∧ i = .int .i64 (k : Nat) ∧ Hid (Below w.heap.size w wr) ∧ Hid (∀ j y, j < k → xs[j]? = some y → ¬ P y)) (fun i _ => n - (intOf i).toNat)
  case atStart => exact ⟨0, Nat.zero_le _, rfl, Lib.hid (Below.refl _ _), fun j c h => absurd h (Nat.not_lt_zero _)⟩
  case round =>
    obtain ⟨k, hk, rfl, HB, I⟩ := hrel
    obtain ⟨wl, rfl⟩ : ∃ x, x = wr := ⟨_, rfl⟩
    by_cases hlt : k < n
    · have hlt' : (k : Int) < (n : Int) := by omega
      obtain ⟨y, hy⟩ : ∃ y, xs[k]? = some y := ⟨_, List.getElem?_eq_getElem (by have := L.out; omega)⟩
      obtain ⟨a1, rfl, e00⟩ := S.out k y hy
      have e0 : wl.cell? (a1.add k) = some (.int .i64 y) := (HB.out.cell (World.block_lt_of_cell? _ _ e00)).trans e00
      have HX := Lib.hid hy
      clear e00 hy
      have C1 := Lib.hid (C.out y wl HB.out)
      by_cases hxy : P y
      · have C2 := Lib.hid (c_t C1.out hxy)
        have HP := Lib.hid hxy
        clear hxy C1
        go_wp2_with fail
        (with_reducible refine C2.out.mono ?_)
        rintro e w1 ⟨rfl, hb1⟩
        have HB1 := Lib.hid (below_call HB.out hb1)
        clear hb1
        go_wp2_with fail
        go_ret
        exact ⟨.inr ⟨k, y, rfl, HX.out, HP.out, I.out⟩, HB1.out⟩
      · have C2 := Lib.hid (c_f C1.out hxy)
        have J := Lib.hid (show ∀ j z, j < k + 1 → xs[j]? = some z → ¬ P z from fun j z hj hz => by
          by_cases e : j = k
          · subst e; rw [HX.out] at hz; cases hz; exact hxy
          · exact I.out j z (by omega) hz)
        clear hxy C1
        go_wp2_with fail
        (with_reducible refine C2.out.mono ?_)
        rintro e w1 ⟨rfl, hb1⟩
        have HB1 := Lib.hid (below_call HB.out hb1)
        clear hb1
        go_wp2_with fail
        go_roundw
        case measure => simp [intOf]; omega
        case rel => exact ⟨k + 1, by omega, by go_num, HB1, J.out⟩
    · go_wp2_with fail
      go_ret
      exact ⟨.inl ⟨rfl, fun x hx => by
        obtain ⟨j, hj⟩ := List.getElem?_of_mem hx
        exact I.out j x (by have := (List.getElem?_eq_some_iff.1 hj).1; have := L.out; omega) hj⟩, HB.out⟩

/-- A row of the call's own while it is rewritten. -/
structure DelI (B g cap : Nat) (w0 W : World) (dk : Array Int) : Prop where
  own : W.ownsRow B 2 1 (.slice (some ⟨g, 0, none⟩) dk.size cap) dk.size (dk.toList.map (Value.int .i64))
  below : Below B w0 W
  size : B ≤ W.heap.size
theorem DelI.base {B g cap : Nat} {w0 W : World} {dk : Array Int} (h : DelI B g cap w0 W dk) : B ≤ g ∧ g < W.heap.size ∧ Holds (Value.int .i64) W g 0 dk := by
  obtain ⟨g', cap', e, hb, hg, -, -, -, hH⟩ := Lib.holds_of_ownsRow h.own (by simp)
  cases e
  exact ⟨hb, hg, by simpa using hH⟩
theorem DelI.grow {B g cap : Nat} {w0 W W' : World} {dk : Array Int} (h : DelI B g cap w0 W dk) (hb : Below W.heap.size W W') : DelI B g cap w0 W' dk :=
  ⟨own_laterI h.own hb, h.below.trans (hb.mono h.size), Nat.le_trans h.size hb.size⟩
theorem DelI.put {B g cap : Nat} {w0 W : World} {dk d2 : Array Int} (h : DelI B g cap w0 W dk) (hs : d2.size = dk.size) : DelI B g cap w0 (putRow (Value.int .i64) W g 0 d2) d2 := by
  have h1 := Lib.ownsRow_putRow (q := 0) (k := dk.size) (ys := d2.toList) h.own (by simpa using hs) (Nat.le_refl _)
  rw [List.take_of_length_le (by simp [hs])] at h1
  refine ⟨?_, Lib.below_putRow (q := 0) h.below h.base.1, by have := h.size; simpa [putRow, mapBlock] using this⟩
  rw [hs]
  exact h1
theorem DelI.set {B g cap : Nat} {w0 W : World} {dk : Array Int} (h : DelI B g cap w0 W dk) (i : Nat) (x : Int) (hi : i < dk.size) : DelI B g cap w0 (W.setCell ⟨g, i, none⟩ (.int .i64 x)) (dk.setIfInBounds i x) := by
  have h1 := putRow_set (Value.int .i64) W g 0 dk i x hi
  rw [putRow_self _ _ _ _ _ h.base.2.2, Nat.zero_add] at h1
  rw [h1]
  exact h.put (by simp)
theorem DelI.lay {B g cap : Nat} {w0 W : World} {dk : Array Int} (h : DelI B g cap w0 W dk) (i : Nat) (xs : List Int) (hi : i + xs.length ≤ dk.size) : DelI B g cap w0 (W.setCells g i (xs.map (Value.int .i64))) (lay dk i xs) := by
  have h1 := putRow_setCells (Value.int .i64) W g 0 xs dk i hi
  rw [putRow_self _ _ _ _ _ h.base.2.2, Nat.zero_add] at h1
  rw [h1]
  exact h.put (by
    have : ∀ (xs : List Int) (d : Array Int) (k : Nat), (Go.Lib.lay d k xs).size = d.size := by
      intro xs
      induction xs with
      | nil => intro d k; rfl
      | cons x t ih => intro d k; simp [Go.Lib.lay, ih]
    exact this _ _ _)
theorem DelI.cut {B g cap : Nat} {w0 W : World} {dk : Array Int} (h : DelI B g cap w0 W dk) (k : Nat) (hk : k ≤ dk.size) : W.ownsRow B 2 1 (.slice (some ⟨g, 0, none⟩) k cap) k (inC (dk.toList.take k)) := by
  have h1 := Lib.ownsRow_putRow (q := 0) (k := k) (ys := dk.toList) h.own (by simp) hk
  have h2 : putRow (Value.int .i64) (Sort.ahead W 0) g 0 dk.toList.toArray = W := by
    rw [Sort.ahead_zero, Array.toArray_toList]; exact putRow_self _ _ _ _ _ h.base.2.2
  rw [h2] at h1
  rw [inC_map]
  exact h1
theorem zero64 : ∀ w, (zeroValue 2).run Tryz.prog w = .ok (.int .i64 0) w := Tryz.zeroValue2

set_option maxHeartbeats 8000000 in
set_option maxRecDepth 100000 in
theorem delE_any (P : Int → Prop) (B : Nat) (w0 : World) (p : Value) (PR : ∀ x W, Below B w0 W → Calls Tryz.prog 92 #[.int .i64 x, p] W fun r w' => r = .returned (.bool (dec (P x))) ∧ Below W.heap.size W w')
    (v : Value) (xs : List Int) (w : World) (ho : w.ownsRow B 2 1 v xs.length (inC xs)) (hb : Below B w0 w) (hB : B ≤ w.heap.size) (hn : xs.length ≤ 1000000) :
    Calls Tryz.prog 91 #[v, .func (.func 92) #[] #[p]] w fun e w' => ∃ v', e = .returned v' ∧ w'.ownsRow B 2 1 v' (xs.filter fun x => !dec (P x)).length (inC (xs.filter fun x => !dec (P x))) ∧ Below B w0 w' := by
  by_cases hv : v = .slice none 0 0
  · subst hv
    have hx : xs = [] := by
      obtain ⟨_, ⟨_, h⟩ | ⟨g, cap, cur, e, _⟩⟩ := ho
      · exact List.eq_nil_of_length_eq_zero h
      · cases e
    subst hx
    have C := Lib.hid (idxD_any P B w0 p PR none 0 0 [] w (by simp) rfl (by decide) hb hB)
    have HB := Lib.hid (And.intro hb hB)
    clear PR ho hb hB hn
    go_enter Tryz.func91, Tryz.ntmps91
    go_wp2_with fail
    (with_reducible refine C.out.mono ?_)
    rintro e w1 ⟨⟨rfl, _⟩ | ⟨k, x, rfl, hk, _⟩, hb1⟩
    · have HB1 := Lib.hid (HB.out.1.trans (hb1.mono HB.out.2))
      clear hb1
      go_wp2_with fail
      go_ret
      exact ⟨_, rfl, World.ownsRow_nil _ _ _ _, HB1.out⟩
    · cases hk
  · have ho2 := ho
    rw [inC_map] at ho2
    obtain ⟨g, cap, rfl, hg, hgs, hnc, hcm, -, hH⟩ := Lib.holds_of_ownsRow ho2 hv
    obtain ⟨d, hd⟩ : ∃ d : Array Int, xs = d.toList := ⟨xs.toArray, rfl⟩
    subst hd
    have hlen : d.toList.length = d.size := by simp
    rw [hlen] at ho ho2 hnc hn hv ⊢
    have D0 : DelI B g cap w0 w d := ⟨ho2, hb, hB⟩
    have C := Lib.hid (idxD_any P B w0 p PR (some ⟨g, 0, none⟩) d.size cap d.toList w (fun k x hk => ⟨_, rfl, by
      have hk' : k < d.size := by
        have := (List.getElem?_eq_some_iff.1 hk).1; simpa using this
      rw [addr_add_at, (D0.base.2.2 k hk').1]
      rw [Array.getElem?_toList, Array.getElem?_eq_getElem hk'] at hk
      cases hk
      rw [getElem!_pos d k hk']⟩) hlen (by omega) hb hB)
    have HD := Lib.hid D0
    have HPR := Lib.hid (fun x W (dk : Array Int) (h : DelI B g cap w0 W dk) => PR x W h.below)
    obtain ⟨kp, HK⟩ : ∃ kp : Nat → Bool, Hid (kp = fun j => !dec (P d[j]!)) := ⟨_, rfl⟩
    have HFILT := Lib.hid (show keptUpTo kp d d.size = d.toList.filter fun x => !dec (P x) from by rw [HK.out]; exact keptUpTo_filter (fun x => !dec (P x)) d)
    have tl := Lib.hid (show ∀ j y, d.toList[j]? = some y → d[j]! = y from fun j y hj => by
      rw [Array.getElem?_toList] at hj
      obtain ⟨h1, h2⟩ := Array.getElem?_eq_some_iff.1 hj
      rw [getElem!_pos d j h1, h2])
    clear PR ho ho2 hb hB hH hgs hv D0 hcm hlen
    go_enter Tryz.func91, Tryz.ntmps91
    go_wp2_with fail
    (with_reducible refine C.out.mono ?_)
    rintro e w1 ⟨⟨rfl, hno⟩ | ⟨k0, x0, rfl, hk0, hP0, hbefore⟩, hb1⟩
    · have HD1 := Lib.hid (HD.out.grow hb1)
      have HALL := Lib.hid (show (d.toList.filter fun x => !dec (P x)) = d.toList from List.filter_eq_self.2 fun x hx => by rw [dec_f (hno x hx)]; rfl)
      clear hb1 hno
      go_wp2_with fail
      go_ret
      refine ⟨_, rfl, ?_, HD1.out.below⟩
      rw [HALL.out]
      have := HD1.out.cut d.size (Nat.le_refl _)
      rw [List.take_of_length_le (by simp)] at this
      simpa using this
    · have hk0' : k0 < d.size := by
        have := (List.getElem?_eq_some_iff.1 hk0).1; simpa using this
      have HD1 := Lib.hid (HD.out.grow hb1)
      have HKI := Lib.hid (KeptInv.start (kp := kp) (d := d) (k0 := k0) (fun j hj => by rw [HK.out]; show (!dec (P d[j]!)) = true; rw [dec_f (hbefore j d[j]! hj (by rw [Array.getElem?_toList, Array.getElem?_eq_getElem (by omega), getElem!_pos d j (by omega)]))]; rfl) (by rw [HK.out]; show (!dec (P d[k0]!)) = false; rw [tl.out k0 x0 hk0, dec_t hP0]; rfl))
      have hne1 : ((k0 : Int) == -1) = false := beq_eq_false_iff_ne.2 (by omega)
      clear hb1 hk0 hP0 hbefore
      go_wp2_with fail
      go_loopw [5, 6, 7] (fun s5 s6 _ wr => ∃ (i j : Nat) (dk : Array Int), s5 = .int .i64 (i : Nat) ∧ s6 = .int .i64 (j : Nat) ∧ j ≤ d.size ∧ Hid (DelI B g cap w0 wr dk) ∧ Hid (KeptInv kp d j i dk)) (fun _ s6 _ _ => d.size - (intOf s6).toNat)
      case atStart => exact ⟨k0, k0 + 1, d, rfl, by go_num, by omega, HD1, HKI⟩
      case round =>
        obtain ⟨i, j, dk, rfl, rfl, hjd, I1, I2⟩ := hrel
        obtain ⟨wl, rfl⟩ : ∃ x, x = wr := ⟨_, rfl⟩
        have hij := I2.out.lt
        have hds := I2.out.size
        by_cases hlt : j < d.size
        · have hltz : (j : Int) < (d.size : Int) := by omega
          have hlti : (i : Int) < (d.size : Int) := by omega
          have ej := (I1.out.base.2.2 j (by omega)).1
          rw [Nat.zero_add, I2.out.high j (by omega)] at ej
          obtain ⟨u, hu⟩ : ∃ u, u = d[j]! := ⟨_, rfl⟩
          rw [← hu] at ej
          have HU := Lib.hid hu
          clear hu
          have C1 := Lib.hid (HPR.out u wl dk I1.out)
          by_cases hp : P u
          · have C2 := Lib.hid (c_t C1.out hp)
            have I3 := Lib.hid (I2.out.skip (by rw [HK.out]; show (!dec (P d[j]!)) = false; rw [← HU.out, dec_t hp]; rfl))
            clear hp C1
            go_wp2_with fail
            (with_reducible refine C2.out.mono ?_)
            rintro e w2 ⟨rfl, hb2⟩
            have I4 := Lib.hid (I1.out.grow hb2)
            clear hb2
            go_wp2_with fail
            go_roundw
            case measure => simp [intOf]; omega
            case rel => exact ⟨i, j + 1, dk, rfl, by go_num, by omega, I4, I3⟩
          · have C2 := Lib.hid (c_f C1.out hp)
            have I3 := Lib.hid (I2.out.keep hlt (by rw [HK.out]; show (!dec (P d[j]!)) = true; rw [← HU.out, dec_f hp]; rfl))
            rw [← HU.out] at I3
            clear hp C1
            go_wp2_with fail
            (with_reducible refine C2.out.mono ?_)
            rintro e w2 ⟨rfl, hb2⟩
            have I4 := Lib.hid (I1.out.grow hb2)
            clear hb2
            obtain ⟨ci, fi⟩ := I4.out.base.2.2 i (by omega)
            rw [Nat.zero_add] at ci fi
            have I5 := Lib.hid (I4.out.set i u (by omega))
            go_wp2_with fail
            go_roundw
            case measure => simp [intOf]; omega
            case rel => exact ⟨i + 1, j + 1, dk.setIfInBounds i u, by go_num, by go_num, by omega, I5, I3⟩
        · obtain rfl : j = d.size := by omega
          have hltz : ¬ (d.size : Int) < (d.size : Int) := by omega
          have hH := I1.out.base.2.2
          have hcl : ∀ ty, (Builtin.clear_ #[29] ty #[.slice (some ⟨g, i, none⟩) (d.size - i) (cap - i)]).run Tryz.prog wl = .ok (.tuple #[]) (wl.setCells g i (List.replicate (d.size - i) (.int .i64 0))) :=
            fun ty => Lib.run_clear_slice wl _ _ ty _ under64 zero64 rfl rfl g i _ _ (by omega) (fun t ht => by rw [show i + t = 0 + (i + t) by omega, (hH (i + t) (by omega)).1]; rfl) (fun t ht => by rw [show i + t = 0 + (i + t) by omega]; exact (hH (i + t) (by omega)).2)
          have I3 := Lib.hid (I1.out.lay i (List.replicate (d.size - i) 0) (by simp; omega))
          have hle : i ≤ d.size := by omega
          clear hH
          go_wp2_with fail
          go_ret
          have hdone := I2.out.done (0 : Int)
          have hel : (d.toList.filter fun x => !dec (P x)).length = i := by rw [← HFILT.out]; exact I2.out.len
          have hb3 := I3.out.below
          have hcut := I3.out.cut i (by rw [hdone]; simp [I2.out.len])
          rw [List.map_replicate] at hb3 hcut
          have htake : (lay dk i (List.replicate (d.size - i) 0)).toList.take i = d.toList.filter fun x => !dec (P x) := by
            rw [hdone, ← HFILT.out, List.take_left' I2.out.len]
          rw [htake] at hcut
          exact ⟨_, rfl, by rw [hel]; exact hcut, hb3⟩
end Go.Proofs.YtechgcjdigpglaaGreat
