/- The document's number and numbers: what they write. Conditions: the numbers are small. The document's text of a rule that may be, the walk. Conditions: its rows have at most ten thousand places. -/
import Derived.Test.YtcleicjgeflbnaaGreatDoorQ1
import Derived.Test.YtcleicjgeflbnaaGreatDoorS8
import Derived.Deep.RegionHeld3
import Derived.Deep.DrawnRows
namespace Go.Proofs.YtcleicjgeflbnaaGreatDoor
open Go.RowKit Go.ChangeShapes Go.WideShapes Go.Deep
set_option linter.all false

theorem digs1 (q : Int) (h0 : 0 ≤ q) (h1 : q < 10) : strOfNums (digs q 1) = toB [UInt8.ofNat (48 + q.toNat)] := by
  rw [str_u8l]
  have : digs q 1 = [48 + q % 10] := by simp [digs]
  rw [this]
  unfold u8l
  simp only [List.map_cons, List.map_nil]
  congr 3
  omega
theorem decDigits_len (u : Nat) (h : u < 1000000000) : (Lib.decDigits u).length ≤ 21 := by
  have := Lib.itoa_length_le (u : Int) (by omega) (by omega)
  unfold Lib.itoa at this
  rw [if_neg (by omega)] at this
  simpa using this

set_option maxRecDepth 100000 in
set_option maxHeartbeats 4000000 in
theorem refNum_nat (u : Nat) (hu : u < 1000000000) (w : World) : Calls Tryz.prog 22 #[.int .i64 (u : Nat)] w fun e w' => e = .returned (.string (toB (Lib.decDigits u))) ∧ Below w.heap.size w w' := by
  induction u using Nat.strongRecOn generalizing w with
  | _ u ih =>
    by_cases h : u < 10
    · have C := Lib.hid (fun W => (show Calls Tryz.prog 53 #[.int .i64 (u : Int), .int .i64 1] W (fun e w' => e = .returned (.string (strOfNums (digs (u : Int) 1))) ∧ Below W.heap.size W w') from refNumber_any (u : Int) 1 (by omega) (by omega) (by omega) W))
      have e : strOfNums (digs (u : Int) 1) = toB (Lib.decDigits u) := by
        rw [digs1 _ (by omega) (by omega), decDigits_rec, if_pos h]; simp
      rw [e] at C
      have h1 : ¬ (u : Int) < 0 := by omega
      have h2 : (u : Int) < 10 := by omega
      clear ih e
      go_enter Tryz.func22, Tryz.ntmps22
      go_wp2_with (go_at_call 53; ((with_reducible refine (C.out _).mono ?_); rintro e w1 ⟨rfl, hb⟩))
      go_ret
      exact ⟨rfl, hb⟩
    · have hd : u / 10 < u := by omega
      have D := Lib.hid (fun W => ih (u / 10) hd (by omega) W)
      have e1 : ((u / 10 : Nat) : Int) = (u : Int) / 10 := by omega
      rw [e1] at D
      have C := Lib.hid (fun W => (show Calls Tryz.prog 53 #[.int .i64 ((u : Int) % 10), .int .i64 1] W (fun e w' => e = .returned (.string (strOfNums (digs ((u : Int) % 10) 1))) ∧ Below W.heap.size W w') from refNumber_any ((u : Int) % 10) 1 (by omega) (by omega) (by omega) W))
      rw [digs1 _ (by omega) (by omega)] at C
      have s1 : (toB (Lib.decDigits (u / 10))).size ≤ 21 := by rw [toB_size]; exact decDigits_len _ (by omega)
      have s2 : (toB [UInt8.ofNat (48 + ((u : Int) % 10).toNat)]).size ≤ 1 := by rw [toB_size]; simp
      have e3 : toB (Lib.decDigits (u / 10)) ++ toB [UInt8.ofNat (48 + ((u : Int) % 10).toNat)] = toB (Lib.decDigits u) := by
        rw [toB_append, decDigits_rec u, if_neg h]
        congr 5
      obtain ⟨Z, hZ⟩ : ∃ Z, Z = toB [UInt8.ofNat (48 + ((u : Int) % 10).toNat)] := ⟨_, rfl⟩
      rw [← hZ] at C s2 e3
      have E3 := Lib.hid e3
      have h1 : ¬ (u : Int) < 0 := by omega
      have h2 : ¬ (u : Int) < 10 := by omega
      clear ih e1 e3 hd h hZ
      go_enter Tryz.func22, Tryz.ntmps22
      go_wp2_with fail
      (with_reducible refine (D.out _).mono ?_)
      rintro e w1 ⟨rfl, hb⟩
      go_wp2_with fail
      (with_reducible refine (C.out _).mono ?_)
      rintro e w2 ⟨rfl, hb2⟩
      go_wp2_with fail
      go_ret
      exact ⟨ret_s E3.out, below_callA hb hb2⟩

set_option maxRecDepth 100000 in
set_option maxHeartbeats 4000000 in
theorem refNum_any (n : Int) (h0 : -1000000 ≤ n) (h1 : n ≤ 1000000) (w : World) : Calls Tryz.prog 22 #[.int .i64 n] w fun e w' => e = .returned (.string (toB (Lib.itoa n))) ∧ Below w.heap.size w w' := by
  by_cases h : n < 0
  · have D := Lib.hid (fun W => refNum_nat n.natAbs (by omega) W)
    have e1 : ((n.natAbs : Nat) : Int) = -n := by omega
    rw [e1] at D
    have e2 : (⟨#[45]⟩ : ByteArray) ++ toB (Lib.decDigits n.natAbs) = toB (Lib.itoa n) := by
      unfold Lib.itoa
      rw [if_pos h, show (⟨#[45]⟩ : ByteArray) = toB [45] from rfl, toB_append]
      rfl
    have E2 := Lib.hid e2
    have s1 : (toB (Lib.decDigits n.natAbs)).size ≤ 21 := by rw [toB_size]; exact decDigits_len _ (by omega)
    have hw1 : IntKind.i64.wrap (-n) = -n := by rw [IntKind.wrap_i64]; omega
    have hw2 : wrap64 (-n) = -n := by unfold wrap64; omega
    clear e1 e2
    go_enter Tryz.func22, Tryz.ntmps22
    go_wp2_with (go_at_call 22; ((with_reducible refine (D.out _).mono ?_); rintro e w1 ⟨rfl, hb⟩))
    go_ret
    exact ⟨ret_s E2.out, hb⟩
  · have := refNum_nat n.toNat (by omega) w
    rw [show ((n.toNat : Nat) : Int) = n by omega, show Lib.decDigits n.toNat = Lib.itoa n by unfold Lib.itoa; rw [if_neg h]] at this
    exact this

theorem join_snoc (d : UInt8) (x : List UInt8) : ∀ l : List (List UInt8), l ≠ [] → Lib.join (l ++ [x]) [d] = Lib.join l [d] ++ d :: x
  | [], h => absurd rfl h
  | [y], _ => by rw [List.singleton_append, join_two, Lib.join_one, Lib.join_one]
  | y :: z :: r, _ => by
    rw [List.cons_append, List.cons_append, join_two, join_two, ← List.cons_append, join_snoc d x (z :: r) (by simp)]
    simp
theorem joinL_le (d : UInt8) (m : Nat) : ∀ l : List (List UInt8), (∀ x ∈ l, x.length ≤ m) → (Lib.join l [d]).length ≤ (m + 1) * l.length
  | [], _ => by rw [Lib.join_nil]; simp
  | [x], h => by rw [Lib.join_one]; have := h x (by simp); simp; omega
  | x :: y :: r, h => by
    have ih := joinL_le d m (y :: r) (fun z hz => h z (List.mem_cons_of_mem _ hz))
    have := h x (by simp)
    rw [join_two]
    simp only [List.length_append, List.length_cons] at ih ⊢
    rw [Nat.mul_add (m + 1) (r.length + 1) 1]
    omega
/-- What numbers has written behind k of them. -/
def numsT (key : List UInt8) (xs : List Int) : List UInt8 := 59 :: (key ++ 61 :: Lib.join (xs.map Lib.itoa) [44])
theorem numsT_nil (key : List UInt8) : numsT key [] = 59 :: (key ++ [61]) := by unfold numsT; simp [Lib.join_nil]
theorem numsT_one (key : List UInt8) (x : Int) : numsT key [x] = 59 :: (key ++ [61]) ++ Lib.itoa x := by unfold numsT; rw [List.map_cons, List.map_nil, Lib.join_one]; simp
theorem numsT_snoc (key : List UInt8) (xs : List Int) (x : Int) (h : xs ≠ []) : numsT key (xs ++ [x]) = numsT key xs ++ [44] ++ Lib.itoa x := by
  unfold numsT
  rw [List.map_append, List.map_cons, List.map_nil, join_snoc _ _ _ (by simpa using h)]
  simp
theorem numsT_le (key : List UInt8) (xs : List Int) (hk : key.length ≤ 20) (h : ∀ x ∈ xs, -1000000 ≤ x ∧ x ≤ 1000000) : (numsT key xs).length ≤ 22 + 22 * xs.length := by
  have := joinL_le 44 21 (xs.map Lib.itoa) (fun y hy => by
    obtain ⟨x, hx, rfl⟩ := List.mem_map.1 hy
    have := h x hx
    exact Lib.itoa_length_le x (by omega) (by omega))
  unfold numsT
  simp only [List.length_cons, List.length_append, List.length_map] at this ⊢
  omega

set_option maxRecDepth 100000 in
set_option maxHeartbeats 8000000 in
theorem refNums_any (key : List UInt8) (o : Option Addr) (n c : Nat) (xs : List Int) (w : World) (h : Row w 1 (rI .i64) (.slice o n c) xs) (hk : key.length ≤ 20) (hn : n ≤ 10000) (hx : ∀ x ∈ xs, -1000000 ≤ x ∧ x ≤ 1000000) :
    Calls Tryz.prog 24 #[.string (toB key), .slice o n c] w fun e w' => e = .returned (.string (toB (if xs = [] then [] else numsT key xs))) ∧ Below w.heap.size w w' := by
  have HR := Lib.hid h
  have HLN := Lib.hid h.len
  have hks : (toB key).size ≤ 20 := by rw [toB_size]; exact hk
  have HX := Lib.hid hx
  have HK := Lib.hid hk
  clear h hx
  by_cases h0 : n = 0
  · have hxs : xs = [] := List.eq_nil_of_length_eq_zero (by rw [HLN.out]; exact h0)
    have b0 : ((n : Int) == 0) = true := by simp [h0]
    rw [if_pos hxs]
    clear HR HX hxs h0
    go_enter Tryz.func24, Tryz.ntmps24
    go_wp2_with fail
    go_ret
    exact ⟨rfl, Below.refl _ _⟩
  · have hxs : xs ≠ [] := fun e => h0 (by rw [← HLN.out, e]; rfl)
    have b0 : ((n : Int) == 0) = false := by simp [h0]
    rw [if_neg hxs]
    have e0 : (⟨#[59]⟩ : ByteArray) ++ toB key ++ ⟨#[61]⟩ = toB (numsT key []) := by
      rw [show (⟨#[59]⟩ : ByteArray) = toB [59] from rfl, show (⟨#[61]⟩ : ByteArray) = toB [61] from rfl, toB_append, toB_append, numsT_nil]
      rfl
    clear h0 hxs
    go_enter Tryz.func24, Tryz.ntmps24
    go_wp2_with fail
    go_loopw [5, 15] (fun v i wr => ∃ k : Nat, k ≤ n ∧ i = .int .i64 (k : Nat) ∧ v = .string (toB (numsT key (xs.take k))) ∧ Hid (Below w.heap.size w wr)) (fun _ i _ => n - (intOf i).toNat)
    case atStart => exact ⟨0, Nat.zero_le _, rfl, congrArg Value.string e0, Lib.hid (Below.refl _ _)⟩
    case round =>
      obtain ⟨k, hkn, rfl, rfl, hB⟩ := hrel
      by_cases hlt : k < n
      · have hlt' : (k : Int) < (n : Int) := by omega
        obtain ⟨x, a1, cs1, hx, rfl, q1, ⟨rfl, _⟩, q0, _⟩ := HR.out.elem hB.out k hlt
        have e1 := q0 (by decide)
        simp only [List.getElem?_cons_zero, Nat.mul_one] at e1
        have hxb := HX.out x (List.mem_of_getElem? hx)
        have tk : xs.take (k + 1) = xs.take k ++ [x] := by rw [List.take_succ, hx]; rfl
        have HT := Lib.hid tk
        have D := Lib.hid (fun W => refNum_any x hxb.1 hxb.2 W)
        have s1 : (toB (Lib.itoa x)).size ≤ 21 := by rw [toB_size]; exact Lib.itoa_length_le x (by omega) (by omega)
        have s2 : (toB (numsT key (xs.take k))).size ≤ 300000 := by
          rw [toB_size]
          have := numsT_le key (xs.take k) HK.out (fun y hy => HX.out y (List.mem_of_mem_take hy))
          have := List.length_take_le k xs
          omega
        clear q0 q1 hx hxb tk
        by_cases hk0 : k = 0
        · have hk1 : ¬ (0 : Int) < (k : Int) := by omega
          have e2 : toB (numsT key (xs.take k)) ++ toB (Lib.itoa x) = toB (numsT key (xs.take (k + 1))) := by
            rw [HT.out, hk0, List.take_zero, List.nil_append, numsT_one, toB_append, numsT_nil]
          have E2 := Lib.hid e2
          clear e2 hk0
          go_wp2_with (go_at_call 22; ((with_reducible refine (D.out _).mono ?_); rintro e w1 ⟨rfl, hb⟩
                                       have HB1 := Lib.hid (hB.out.trans (hb.mono hB.out.size))
                                       clear hb))
          go_roundw
          case measure => simp [intOf]; omega
          case rel => exact ⟨k + 1, by omega, by go_num, congrArg Value.string E2.out, HB1⟩
        · have hkp : (0 : Int) < (k : Int) := by omega
          have e2 : toB (numsT key (xs.take k)) ++ ⟨#[44]⟩ ++ toB (Lib.itoa x) = toB (numsT key (xs.take (k + 1))) := by
            have hne : xs.take k ≠ [] := fun e => hk0 (by
              have h1 := congrArg List.length e
              have h2 := HLN.out
              rw [List.length_take] at h1
              simp at h1
              rcases h1 with h1 | h1
              · exact h1
              · rw [h1] at h2; simp at h2; omega)
            rw [HT.out, numsT_snoc _ _ _ hne, show (⟨#[44]⟩ : ByteArray) = toB [44] from rfl, toB_append, toB_append]
          have E2 := Lib.hid e2
          clear e2 hk0
          go_wp2_with (go_at_call 22; ((with_reducible refine (D.out _).mono ?_); rintro e w1 ⟨rfl, hb⟩
                                       have HB1 := Lib.hid (hB.out.trans (hb.mono hB.out.size))
                                       clear hb))
          go_roundw
          case measure => simp [intOf]; omega
          case rel => exact ⟨k + 1, by omega, by go_num, congrArg Value.string E2.out, HB1⟩
      · obtain rfl : n = k := by omega
        have tk : xs.take n = xs := List.take_of_length_le (by rw [HLN.out]; exact Nat.le_refl _)
        rw [tk]
        clear tk
        go_wp2_with fail
        go_ret
        exact ⟨rfl, hB.out⟩
end Go.Proofs.YtcleicjgeflbnaaGreatDoor
namespace Go.Proofs.YtcleicjgeflbnaaGreatDoor
open Go.RowKit Go.ChangeShapes Go.WideShapes Go.Deep
set_option linter.all false
attribute [local go_sem ↓] Go.wp_at_zero Go.wp_at_succ

def optT (c : Prop) [Decidable c] (x : List UInt8) : List UInt8 := if c then 59 :: x else []
def rowT {α : Type} (k : List UInt8) (f : α → List UInt8) (l : List α) : List UInt8 := if l = [] then [] else 59 :: (k ++ Lib.join (l.map f) [44])
theorem join_flat (d : UInt8) (x : List UInt8) : ∀ l : List (List UInt8), Lib.join (x :: l) [d] = x ++ l.flatMap (fun y => d :: y)
  | [] => by rw [Lib.join_one]; simp
  | y :: r => by rw [join_two, join_flat d y r]; simp
theorem opt_flat (c : Prop) [Decidable c] (x : List UInt8) : (optP c x).flatMap (fun y => (59 : UInt8) :: y) = optT c x := by
  unfold optP optT; split <;> simp
theorem row_flat {α : Type} (k : List UInt8) (f : α → List UInt8) (l : List α) : (rowP k f l).flatMap (fun y => (59 : UInt8) :: y) = rowT k f l := by
  unfold rowP rowT
  cases l with
  | nil => rfl
  | cons a l => rw [if_neg (by simp), if_neg (by simp)]; simp
theorem text_flat (r : RuleD) : textR shortT r = kFREQ ++ freqT r.freq ++ optT (r.interval ≠ 1) (kINTERVAL ++ Lib.itoa r.interval) ++ optT (0 < r.count) (kCOUNT ++ Lib.itoa r.count) ++ optT (0 ≤ r.until_) (kUNTIL ++ shortT r.until_) ++
    rowT kBYMONTH Lib.itoa r.byMonth ++ rowT kBYMONTHDAY Lib.itoa r.byMonthDay ++ rowT kBYDAY dayNT r.byDay ++ rowT kBYSETPOS Lib.itoa r.bySetPos ++ optT (0 < r.start) (kWKST ++ dayT r.start) := by
  unfold textR partsR
  simp only [List.append_assoc, List.singleton_append, List.cons_append, join_flat, List.flatMap_append, List.flatMap_nil, List.nil_append, opt_flat, row_flat]
theorem nums_row_eq (k : List UInt8) (xs : List Int) : (if xs = [] then [] else numsT k xs) = rowT (k ++ [61]) Lib.itoa xs := by
  unfold rowT numsT
  split
  · rfl
  · simp
/-- What has been written of the days behind k of them. -/
def daysT (xs : List DayND) : List UInt8 := if xs = [] then [] else 59 :: (kBYDAY ++ Lib.join (xs.map dayNT) [44])
theorem daysT_one (x : DayND) : daysT [x] = 59 :: kBYDAY ++ (if x.n = 0 then [] else Lib.itoa x.n) ++ dayT x.day := by
  unfold daysT
  rw [if_neg (by simp), List.map_cons, List.map_nil, Lib.join_one, dayNT_eq]
  simp
theorem daysT_snoc (xs : List DayND) (x : DayND) (h : xs ≠ []) : daysT (xs ++ [x]) = daysT xs ++ [44] ++ (if x.n = 0 then [] else Lib.itoa x.n) ++ dayT x.day := by
  unfold daysT
  rw [if_neg (by simp), if_neg h, List.map_append, List.map_cons, List.map_nil, join_snoc _ _ _ (by simpa using h), dayNT_eq]
  simp
theorem daysT_le (xs : List DayND) (h : ∀ x ∈ xs, 0 ≤ x.day ∧ x.day ≤ 6 ∧ -5 ≤ x.n ∧ x.n ≤ 5) : (daysT xs).length ≤ 10 + 24 * xs.length := by
  have := joinL_le 44 23 (xs.map dayNT) (fun y hy => by
    obtain ⟨x, hx, rfl⟩ := List.mem_map.1 hy
    have hb := h x hx
    have h1 := Lib.itoa_length_le x.n (by omega) (by omega)
    have h2 := (dayT_two ⟨hb.1, hb.2.1⟩).1
    rw [dayNT_eq, List.length_append, h2]
    split
    · simp
    · omega)
  unfold daysT
  split
  · simp
  · simp only [List.length_cons, List.length_append, List.length_map, kBYDAY] at this ⊢
    simp only [List.length_cons, List.length_nil]
    omega

/-- The rule's box and the names of the days lie as they were laid. -/
structure XS (w : World) (bx : Array Value) (W : World) : Prop where
  box : ∀ j, W.cell? ⟨w.heap.size, j, none⟩ = bx[j]?
  days : ∀ j, W.cell? ⟨w.heap.size + 1, j, none⟩ = daysC[j]?
  bel : Below w.heap.size w W
  sz : w.heap.size + 2 < W.heap.size
theorem XS.below {w W W' : World} {bx : Array Value} (h : XS w bx W) (hb : Below W.heap.size W W') : XS w bx W' := by
  have hz := h.sz
  exact ⟨fun j => (hb.cell (p := ⟨w.heap.size, j, none⟩) (by simp only; omega)).trans (h.box j), fun j => (hb.cell (p := ⟨w.heap.size + 1, j, none⟩) (by simp only; omega)).trans (h.days j), h.bel.trans (hb.mono h.bel.size), Nat.lt_of_lt_of_le hz hb.size⟩
theorem XS.drew {w W : World} {bx : Array Value} (h : XS w bx W) : XS w bx W.drew := ⟨h.box, h.days, h.bel.drew, h.sz⟩
theorem XS.start (w : World) (a b c : Array Value) (t1 t2 t3 : TypeId) (hb : b = daysC) : XS w a (((w.alloc (.cells a t1)).alloc (.cells b t2)).alloc (.cells c t3)) := by
  have hp : (((w.alloc (.cells a t1)).alloc (.cells b t2)).alloc (.cells c t3)).heap = w.heap ++ #[.cells a t1, .cells b t2, .cells c t3] := by
    show ((w.heap.push _).push _).push _ = _
    apply Array.ext'
    simp
  have g : ∀ (j : Nat), (((w.alloc (.cells a t1)).alloc (.cells b t2)).alloc (.cells c t3)).heap[w.heap.size + j]? = (#[Obj.cells a t1, .cells b t2, .cells c t3] : Array Obj)[j]? := fun j => by
    rw [hp, Array.getElem?_append_right (by omega)]; congr 1; omega
  refine ⟨fun j => cell_of_row _ _ _ _ _ _ (g 0), fun j => by rw [← hb]; exact cell_of_row _ _ _ _ _ _ (g 1), belowA _ (belowA _ (belowA _ (Below.refl _ _))), ?_⟩
  rw [hp, Array.size_append]
  show _ < _ + 3
  omega
theorem short_parts (n : Int) : (strOfNums (stampText n)).size = 16 ∧ (strOfNums (stampText n)).extract 0 4 ++ (strOfNums (stampText n)).extract 5 7 ++ (strOfNums (stampText n)).extract 8 13 ++ (strOfNums (stampText n)).extract 14 16 = toB (shortT n) := by
  have e1 := shortT_eq n
  have e2 : u8l (stampText n) = u8l (digs (dateY (sDay n)) 4) ++ (45 :: (u8l (digs (dateM (sDay n)) 2) ++ (45 :: (u8l (digs (dD (sDay n)) 2) ++ (84 :: (u8l (digs (sMin n / 60) 2) ++ (58 :: u8l (digs (sMin n % 60) 2)))))))) := by
    unfold stampText minText
    simp only [u8l_append, u8l_cons]
    rfl
  have k4 : ∀ x, ∃ a b c d, u8l (digs x 4) = [a, b, c, d] := fun x => by
    have h : (u8l (digs x 4)).length = 4 := by rw [u8l_length, digs_length]
    revert h
    generalize u8l (digs x 4) = l
    intro h
    match l, h with
    | [a, b, c, d], _ => exact ⟨a, b, c, d, rfl⟩
  have k2 : ∀ x, ∃ a b, u8l (digs x 2) = [a, b] := fun x => by
    have h : (u8l (digs x 2)).length = 2 := by rw [u8l_length, digs_length]
    revert h
    generalize u8l (digs x 2) = l
    intro h
    match l, h with
    | [a, b], _ => exact ⟨a, b, rfl⟩
  obtain ⟨y0, y1, y2, y3, ey⟩ := k4 (dateY (sDay n))
  obtain ⟨m0, m1, em⟩ := k2 (dateM (sDay n))
  obtain ⟨d0, d1, ed⟩ := k2 (dD (sDay n))
  obtain ⟨p0, p1, ep⟩ := k2 (sMin n / 60)
  obtain ⟨q0, q1, eq⟩ := k2 (sMin n % 60)
  rw [ey, em, ed, ep, eq] at e1 e2
  rw [str_u8l, e2, e1, ext_toB, ext_toB, ext_toB, ext_toB]
  simp only [toB_append, toB_size]
  exact ⟨rfl, rfl⟩

set_option maxRecDepth 100000 in
set_option maxHeartbeats 20000000 in
theorem refText_any (cs : List Value) (r : RuleD) (w : World) (h : rRule w cs r) (hf : fewR r) (hm : mayR r) :
    Calls Tryz.prog 11 #[.agg cs.toArray] w fun e w' => e = .returned (.string (toB (textR shortT r))) ∧ Below w.heap.size w w' := by
  obtain ⟨m, d, y, p, rfl, -, -, -, -, -, hmm, hd, hy, hp⟩ := h
  obtain ⟨om, nm, cm, rfl, lm, -, -, RM⟩ := hmm.open
  obtain ⟨od, nd, cd, rfl, ld, -, -, RD⟩ := hd.open
  obtain ⟨oy, ny, cy, rfl, ly, -, -, RY⟩ := hy.open
  obtain ⟨op, np, cp, rfl, lp, -, -, RP⟩ := hp.open
  have hnm : nm ≤ 10000 := by have := hf.m; omega
  have hnd : nd ≤ 10000 := by have := hf.d; omega
  have hny : ny ≤ 10000 := by have := hf.y; omega
  have hnp : np ≤ 10000 := by have := hf.p; omega
  obtain ⟨p1, p2, p3, p4, p5, p6, p7, p8, p9, p10, p11, p12, p13⟩ := id hm
  unfold endsMay at p5
  have hrb : ∀ {k : Nat} {b : Bool} {l : List Int}, rowMay k b l → k ≤ 10000 → ∀ x ∈ l, -1000000 ≤ x ∧ x ≤ 1000000 := fun h hk x hx => by
    have := h.1 x hx
    unfold rowOne at this
    omega
  have HDB := Lib.hid (show ∀ x ∈ r.byDay, 0 ≤ x.day ∧ x.day ≤ 6 ∧ -5 ≤ x.n ∧ x.n ≤ 5 from fun x hx => ⟨(p9.1 x hx).1, (p9.1 x hx).2.1, (p9.1 x hx).2.2.1, (p9.1 x hx).2.2.2.1⟩)
  have N1 := Lib.hid (fun W => refNum_any r.interval (by omega) (by omega) W)
  have N2 := Lib.hid (fun W => refNum_any r.count (by omega) (by omega) W)
  have N3 := Lib.hid (fun W (h0 : 0 ≤ r.until_) => refStamp_any r.until_ h0 (by omega) W)
  have N4 := Lib.hid (fun W (hb : Below w.heap.size w W) => (show Calls Tryz.prog 24 #[.string ⟨#[66, 89, 77, 79, 78, 84, 72]⟩, .slice om nm cm] W _ from refNums_any nBYMONTH om nm cm r.byMonth W (RM.later' hb) (by decide) hnm (hrb p6 (by decide))))
  have N5 := Lib.hid (fun W (hb : Below w.heap.size w W) => (show Calls Tryz.prog 24 #[.string ⟨#[66, 89, 77, 79, 78, 84, 72, 68, 65, 89]⟩, .slice od nd cd] W _ from refNums_any nBYMONTHDAY od nd cd r.byMonthDay W (RD.later' hb) (by decide) hnd (hrb p7 (by decide))))
  have N7 := Lib.hid (fun W (hb : Below w.heap.size w W) => (show Calls Tryz.prog 24 #[.string ⟨#[66, 89, 83, 69, 84, 80, 79, 83]⟩, .slice op np cp] W _ from refNums_any nBYSETPOS op np cp r.bySetPos W (RP.later' hb) (by decide) hnp (hrb p10 (by decide))))
  rw [nums_row_eq] at N4 N5 N7
  obtain ⟨V4, hV4⟩ : ∃ V, V = toB (rowT (nBYMONTH ++ [61]) Lib.itoa r.byMonth) := ⟨_, rfl⟩
  obtain ⟨V5, hV5⟩ : ∃ V, V = toB (rowT (nBYMONTHDAY ++ [61]) Lib.itoa r.byMonthDay) := ⟨_, rfl⟩
  obtain ⟨V7, hV7⟩ : ∃ V, V = toB (rowT (nBYSETPOS ++ [61]) Lib.itoa r.bySetPos) := ⟨_, rfl⟩
  rw [← hV4] at N4
  rw [← hV5] at N5
  rw [← hV7] at N7
  have HRY := Lib.hid RY
  have HLY := Lib.hid ly
  have z4 : V4.size ≤ 250000 := by
    rw [hV4, ← nums_row_eq, toB_size]
    split
    · simp
    · have := numsT_le nBYMONTH r.byMonth (by decide) (hrb p6 (by decide)); omega
  have z5 : V5.size ≤ 250000 := by
    rw [hV5, ← nums_row_eq, toB_size]
    split
    · simp
    · have := numsT_le nBYMONTHDAY r.byMonthDay (by decide) (hrb p7 (by decide)); omega
  have z7 : V7.size ≤ 250000 := by
    rw [hV7, ← nums_row_eq, toB_size]
    split
    · simp
    · have := numsT_le nBYSETPOS r.bySetPos (by decide) (hrb p10 (by decide)); omega
  have i1 : (toB (Lib.itoa r.interval)).size ≤ 21 := by rw [toB_size]; exact Lib.itoa_length_le _ (by omega) (by omega)
  have i2 : (toB (Lib.itoa r.count)).size ≤ 21 := by rw [toB_size]; exact Lib.itoa_length_le _ (by omega) (by omega)
  have hf4 : r.freq = 1 ∨ r.freq = 2 ∨ r.freq = 3 ∨ r.freq = 4 := by omega
  obtain ⟨st, hst⟩ : ∃ st : Nat, r.start = (st : Int) := ⟨r.start.toNat, by omega⟩
  have hst7 : st < 7 := by omega
  have hdst := daysC_at st hst7
  have HTX := Lib.hid (text_flat r)
  obtain ⟨T0, hT0⟩ : ∃ T, T = kFREQ ++ freqT r.freq := ⟨_, rfl⟩
  obtain ⟨T1, hT1⟩ : ∃ T, T = T0 ++ optT (r.interval ≠ 1) (kINTERVAL ++ Lib.itoa r.interval) := ⟨_, rfl⟩
  obtain ⟨T2, hT2⟩ : ∃ T, T = T1 ++ optT (0 < r.count) (kCOUNT ++ Lib.itoa r.count) := ⟨_, rfl⟩
  obtain ⟨T3, hT3⟩ : ∃ T, T = T2 ++ optT (0 ≤ r.until_) (kUNTIL ++ shortT r.until_) := ⟨_, rfl⟩
  have l0 : T0.length ≤ 20 := by
    rw [hT0]
    rcases hf4 with e | e | e | e <;> rw [e] <;> decide
  have l1 : T1.length ≤ 60 := by
    rw [hT1]; unfold optT
    have := Lib.itoa_length_le r.interval (by omega) (by omega)
    split
    · simp only [List.length_append, List.length_cons, kINTERVAL, List.length_nil]; omega
    · simp only [List.append_nil]; omega
  have l2 : T2.length ≤ 100 := by
    rw [hT2]; unfold optT
    have := Lib.itoa_length_le r.count (by omega) (by omega)
    split
    · simp only [List.length_append, List.length_cons, kCOUNT, List.length_nil]; omega
    · simp only [List.append_nil]; omega
  have l3 : T3.length ≤ 200 := by
    rw [hT3]; unfold optT
    have := shortT_length r.until_
    split
    · simp only [List.length_append, List.length_cons, kUNTIL, List.length_nil]; omega
    · simp only [List.append_nil]; omega
  have E0 := Lib.hid hT0
  have E1y := Lib.hid (show 1 < r.interval → toB T0 ++ ⟨#[59, 73, 78, 84, 69, 82, 86, 65, 76, 61]⟩ ++ toB (Lib.itoa r.interval) = toB T1 from fun c => by
    rw [hT1, show ((⟨#[59, 73, 78, 84, 69, 82, 86, 65, 76, 61]⟩ : ByteArray)) = toB (59 :: kINTERVAL) from rfl, toB_append, toB_append]
    unfold optT; rw [if_pos (by omega)]; simp)
  have E1n := Lib.hid (show ¬ 1 < r.interval → toB T0 = toB T1 from fun c => by
    rw [hT1]; unfold optT; rw [if_neg (by omega)]; simp)
  have E2y := Lib.hid (show 0 < r.count → toB T1 ++ ⟨#[59, 67, 79, 85, 78, 84, 61]⟩ ++ toB (Lib.itoa r.count) = toB T2 from fun c => by
    rw [hT2, show ((⟨#[59, 67, 79, 85, 78, 84, 61]⟩ : ByteArray)) = toB (59 :: kCOUNT) from rfl, toB_append, toB_append]
    unfold optT; rw [if_pos c]; simp)
  have E2n := Lib.hid (show ¬ 0 < r.count → toB T1 = toB T2 from fun c => by
    rw [hT2]; unfold optT; rw [if_neg c]; simp)
  have hSP := short_parts r.until_
  obtain ⟨S, hS⟩ : ∃ S, S = strOfNums (stampText r.until_) := ⟨_, rfl⟩
  rw [← hS] at hSP N3
  obtain ⟨hS16, hSX⟩ := hSP
  have E3y := Lib.hid (show 0 ≤ r.until_ → toB T2 ++ ⟨#[59, 85, 78, 84, 73, 76, 61]⟩ ++ S.extract 0 4 ++ S.extract 5 7 ++ S.extract 8 13 ++ S.extract 14 16 = toB T3 from fun c => by
    rw [hT3, show ((⟨#[59, 85, 78, 84, 73, 76, 61]⟩ : ByteArray)) = toB (59 :: kUNTIL) from rfl, toB_append]
    unfold optT; rw [if_pos c]
    rw [show ∀ q a b c d : ByteArray, q ++ a ++ b ++ c ++ d = q ++ (a ++ b ++ c ++ d) from fun q a b c d => by simp only [ByteArray.append_assoc], hSX, toB_append]
    simp)
  have E3n := Lib.hid (show ¬ 0 ≤ r.until_ → toB T2 = toB T3 from fun c => by
    rw [hT3]; unfold optT; rw [if_neg c]; simp)
  have E8 := Lib.hid (show textR shortT r = T3 ++ rowT kBYMONTH Lib.itoa r.byMonth ++ rowT kBYMONTHDAY Lib.itoa r.byMonthDay ++ daysT r.byDay ++ rowT kBYSETPOS Lib.itoa r.bySetPos ++ optT (0 < r.start) (kWKST ++ dayT r.start) by
    rw [HTX.out, hT3, hT2, hT1, hT0]; rfl)
  obtain ⟨T4, hT4⟩ : ∃ T, T = T3 ++ rowT kBYMONTH Lib.itoa r.byMonth ++ rowT kBYMONTHDAY Lib.itoa r.byMonthDay := ⟨_, rfl⟩
  have l4 : T4.length ≤ 600000 := by
    rw [hV4, toB_size] at z4
    rw [hV5, toB_size] at z5
    rw [hT4, List.length_append, List.length_append]
    have e4 : rowT kBYMONTH Lib.itoa r.byMonth = rowT (nBYMONTH ++ [61]) Lib.itoa r.byMonth := rfl
    have e5 : rowT kBYMONTHDAY Lib.itoa r.byMonthDay = rowT (nBYMONTHDAY ++ [61]) Lib.itoa r.byMonthDay := rfl
    rw [e4, e5]
    omega
  have E4 := Lib.hid (show toB T3 ++ V4 ++ V5 = toB T4 by
    rw [hV4, hV5, hT4, toB_append, toB_append]; rfl)
  obtain ⟨T6, hT6⟩ : ∃ T, T = T4 ++ daysT r.byDay ++ rowT kBYSETPOS Lib.itoa r.bySetPos := ⟨_, rfl⟩
  have HTL := Lib.hid (show ∀ k, (T4 ++ daysT (r.byDay.take k)).length ≤ 900000 from fun k => by
    have h1 := daysT_le (r.byDay.take k) (fun x hx => HDB.out x (List.mem_of_mem_take hx))
    have h2 : (r.byDay.take k).length ≤ r.byDay.length := by rw [List.length_take]; omega
    have h3 := HLY.out
    rw [List.length_append]
    omega)
  have l6 : T6.length ≤ 1200000 := by
    rw [hV7, toB_size] at z7
    have h1 := HTL.out r.byDay.length
    rw [List.take_length] at h1
    have e7 : rowT kBYSETPOS Lib.itoa r.bySetPos = rowT (nBYSETPOS ++ [61]) Lib.itoa r.bySetPos := rfl
    rw [hT6, List.length_append, e7]
    omega
  have E6 := Lib.hid (show toB (T4 ++ daysT r.byDay) ++ V7 = toB T6 by
    rw [hV7, hT6, toB_append]; rfl)
  have E7y := Lib.hid (show 0 < r.start → toB T6 ++ ⟨#[59, 87, 75, 83, 84, 61]⟩ ++ toB (dayT st) = toB (textR shortT r) from fun c => by
    rw [E8.out, ← hT4, ← hT6, show ((⟨#[59, 87, 75, 83, 84, 61]⟩ : ByteArray)) = toB (59 :: kWKST) from rfl, toB_append, toB_append, ← hst]
    unfold optT; rw [if_pos c]; simp)
  have E7n := Lib.hid (show ¬ 0 < r.start → toB T6 = toB (textR shortT r) from fun c => by
    rw [E8.out, ← hT4, ← hT6]
    unfold optT; rw [if_neg c]; simp)
  have y0 : (toB T0).size ≤ 20 := by rw [toB_size]; exact l0
  have y1 : (toB T1).size ≤ 60 := by rw [toB_size]; exact l1
  have y2 : (toB T2).size ≤ 100 := by rw [toB_size]; exact l2
  have y3 : (toB T3).size ≤ 200 := by rw [toB_size]; exact l3
  have y4 : (toB T4).size ≤ 600000 := by rw [toB_size]; exact l4
  have y6 : (toB T6).size ≤ 1200000 := by rw [toB_size]; exact l6
  have y8 : (toB (dayT st)).size ≤ 2 := by rw [toB_size]; exact dayT_len _
  have hz4 : ¬ (9223372036854775807 : Int) < ((toB T3).size : Int) + (V4.size : Int) := by omega
  have hz5 : ¬ (9223372036854775807 : Int) < ((toB T3).size : Int) + (V4.size : Int) + (V5.size : Int) := by omega
  have HST := Lib.hid hst
  obtain ⟨fk, hfk⟩ : ∃ fk : Nat, r.freq = (fk : Int) := ⟨r.freq.toNat, by omega⟩
  have hfk5 : fk < 5 := by omega
  have hfk5' : (fk : Int) < 5 := by omega
  have hfkc : fk = 1 ∨ fk = 2 ∨ fk = 3 ∨ fk = 4 := by omega
  have hfc : (#[.string ⟨#[]⟩, .string ⟨#[68, 65, 73, 76, 89]⟩, .string ⟨#[87, 69, 69, 75, 76, 89]⟩, .string ⟨#[77, 79, 78, 84, 72, 76, 89]⟩, .string ⟨#[89, 69, 65, 82, 76, 89]⟩] : Array Value)[fk]? = some (.string (toB (freqT (fk : Int)))) := by rcases hfkc with rfl | rfl | rfl | rfl <;> rfl
  have hfc2 : ([.string ⟨#[]⟩, .string ⟨#[68, 65, 73, 76, 89]⟩, .string ⟨#[87, 69, 69, 75, 76, 89]⟩, .string ⟨#[77, 79, 78, 84, 72, 76, 89]⟩, .string ⟨#[89, 69, 65, 82, 76, 89]⟩] : List Value)[fk]? = some (.string (toB (freqT (fk : Int)))) := by rcases hfkc with rfl | rfl | rfl | rfl <;> rfl
  have hfc3 : ∀ h : fk < ([.string ⟨#[]⟩, .string ⟨#[68, 65, 73, 76, 89]⟩, .string ⟨#[87, 69, 69, 75, 76, 89]⟩, .string ⟨#[77, 79, 78, 84, 72, 76, 89]⟩, .string ⟨#[89, 69, 65, 82, 76, 89]⟩] : List Value).length, ([.string ⟨#[]⟩, .string ⟨#[68, 65, 73, 76, 89]⟩, .string ⟨#[87, 69, 69, 75, 76, 89]⟩, .string ⟨#[77, 79, 78, 84, 72, 76, 89]⟩, .string ⟨#[89, 69, 65, 82, 76, 89]⟩] : List Value)[fk]'h = .string (toB (freqT (fk : Int))) := fun h => Option.some.inj ((List.getElem?_eq_getElem h).symm.trans hfc2)
  have yf : (toB (freqT (fk : Int))).size ≤ 7 := by rw [toB_size]; rcases hfkc with rfl | rfl | rfl | rfl <;> decide
  have E0x := Lib.hid (show (⟨#[70, 82, 69, 81, 61]⟩ : ByteArray) ++ toB (freqT (fk : Int)) = toB T0 by rw [E0.out, hfk, show ((⟨#[70, 82, 69, 81, 61]⟩ : ByteArray)) = toB kFREQ from rfl, toB_append])
  rw [hfk]
  have HX := Lib.hid (XS.start w #[.int .i64 (fk : Nat), .int .i64 r.interval, .int .i64 r.count, .int .i64 r.until_, .slice om nm cm, .slice od nd cd, .slice oy ny cy, .slice op np cp, .int .i64 r.start] #[.string ⟨#[77, 79]⟩, .string ⟨#[84, 85]⟩, .string ⟨#[87, 69]⟩, .string ⟨#[84, 72]⟩, .string ⟨#[70, 82]⟩, .string ⟨#[83, 65]⟩, .string ⟨#[83, 85]⟩] #[.string ⟨#[]⟩, .string ⟨#[68, 65, 73, 76, 89]⟩, .string ⟨#[87, 69, 69, 75, 76, 89]⟩, .string ⟨#[77, 79, 78, 84, 72, 76, 89]⟩, .string ⟨#[89, 69, 65, 82, 76, 89]⟩] 26 9 9 rfl)
  clear hmm hd hy hp RM RD RY RP lm ld ly lp hf hnm hnd hnp hm p1 p2 p3 p4 p5 p6 p7 p8 p9 p10 p11 p12 p13 hrb hT0 hT1 hT2 hT3 hT4 hT6 l0 l1 l2 l3 l4 l6 hSX hS hst hV4 hV5 hV7 hf4 hfk hfkc
  go_enter Tryz.func11, Tryz.ntmps11
  go_upto_region 3 with (fail)
  go_cut [5] from 6 (fun v W => v = .string (toB T0) ∧ Hid (XS w #[.int .i64 (fk : Nat), .int .i64 r.interval, .int .i64 r.count, .int .i64 r.until_, .slice om nm cm, .slice od nd cd, .slice oy ny cy, .slice op np cp, .int .i64 r.start] W))
  case first =>
    go_wp2_with fail
    go_meet
    exact ⟨congrArg Value.string E0x.out, HX⟩
  case rest =>
  clear HX
  obtain ⟨rfl, HX⟩ := hcut
  have kA := HX.out.box
  go_upto_if 18 with (fail)
  go_cut [5] from 6 (fun v W => v = .string (toB T1) ∧ Hid (XS w #[.int .i64 (fk : Nat), .int .i64 r.interval, .int .i64 r.count, .int .i64 r.until_, .slice om nm cm, .slice od nd cd, .slice oy ny cy, .slice op np cp, .int .i64 r.start] W))
  case first =>
    by_cases c : 1 < r.interval
    · have d := decide_eq_true c
      have P := Lib.hid c
      go_wp2_with (go_at_call 22; ((with_reducible refine (N1.out _).mono ?_); rintro e w1 ⟨rfl, hb⟩; have HY := Lib.hid (HX.out.below hb); clear hb))
      go_meet
      exact ⟨congrArg Value.string (E1y.out P.out), HY⟩
    · have d := decide_eq_false c
      have P := Lib.hid c
      go_wp2_with fail
      go_meet
      exact ⟨congrArg Value.string (E1n.out P.out), HX⟩
  case rest =>
  obtain ⟨rfl, HX⟩ := hcut
  have kA := HX.out.box
  go_upto_if 27 with (fail)
  go_cut [5] from 6 (fun v W => v = .string (toB T2) ∧ Hid (XS w #[.int .i64 (fk : Nat), .int .i64 r.interval, .int .i64 r.count, .int .i64 r.until_, .slice om nm cm, .slice od nd cd, .slice oy ny cy, .slice op np cp, .int .i64 r.start] W))
  case first =>
    by_cases c : 0 < r.count
    · have d := decide_eq_true c
      have P := Lib.hid c
      go_wp2_with (go_at_call 22; ((with_reducible refine (N2.out _).mono ?_); rintro e w1 ⟨rfl, hb⟩; have HY := Lib.hid (HX.out.below hb); clear hb))
      go_meet
      exact ⟨congrArg Value.string (E2y.out P.out), HY⟩
    · have d := decide_eq_false c
      have P := Lib.hid c
      go_wp2_with fail
      go_meet
      exact ⟨congrArg Value.string (E2n.out P.out), HX⟩
  case rest =>
  obtain ⟨rfl, HX⟩ := hcut
  have kA := HX.out.box
  go_upto_if 36 with (fail)
  go_cut [5] from 6 (fun v W => v = .string (toB T3) ∧ Hid (XS w #[.int .i64 (fk : Nat), .int .i64 r.interval, .int .i64 r.count, .int .i64 r.until_, .slice om nm cm, .slice od nd cd, .slice oy ny cy, .slice op np cp, .int .i64 r.start] W))
  case first =>
    by_cases c : 0 ≤ r.until_
    · have d := decide_eq_true c
      have P := Lib.hid c
      go_upto_region 10 with (go_at_call 23; ((with_reducible refine (N3.out _ P.out).mono ?_); rintro e w1 ⟨rfl, hb⟩; have HY := Lib.hid (HX.out.below hb); clear hb))
      go_region_with (fail)
      all_goals
        go_wp2_with fail
        go_meet
        first
          | exact ⟨congrArg Value.string (E3y.out P.out), HY⟩
          | exact ⟨congrArg Value.string (E3y.out P.out), Lib.hid HY.out.drew⟩
    · have d := decide_eq_false c
      have P := Lib.hid c
      go_wp2_with fail
      go_meet
      exact ⟨congrArg Value.string (E3n.out P.out), HX⟩
  case rest =>
  obtain ⟨rfl, HX⟩ := hcut
  have kA := HX.out.box
  go_upto_region 11 with (fail)
  go_cut [5] from 6 (fun v W => v = .string (toB T4) ∧ Hid (XS w #[.int .i64 (fk : Nat), .int .i64 r.interval, .int .i64 r.count, .int .i64 r.until_, .slice om nm cm, .slice od nd cd, .slice oy ny cy, .slice op np cp, .int .i64 r.start] W))
  case first =>
    have kAd : ∀ j, wc.drew.cell? ⟨w.heap.size, j, none⟩ = (#[.int .i64 (fk : Nat), .int .i64 r.interval, .int .i64 r.count, .int .i64 r.until_, .slice om nm cm, .slice od nd cd, .slice oy ny cy, .slice op np cp, .int .i64 r.start] : Array Value)[j]? := kA
    refine wp_region_held_drew (S := (fun W' => ∀ j, W'.cell? ⟨w.heap.size, j, none⟩ = (#[.int .i64 (fk : Nat), .int .i64 r.interval, .int .i64 r.count, .int .i64 r.until_, .slice om nm cm, .slice od nd cd, .slice oy ny cy, .slice op np cp, .int .i64 r.start] : Array Value)[j]?)) (by kernel_rfl) kAd (fun hHeld => ?_)
    simp only [List.size_toArray, List.length_cons, List.length_nil, Nat.reduceAdd, Array.replicate_succ, Array.replicate_zero, List.push_toArray, List.nil_append, List.cons_append]
    refine wpAnyH_take (i := 0) (oi := ⟨some 54, _, _, _, _, _⟩) (v := ?_) rfl (by kernel_rfl) (by kernel_rfl) (by kernel_rfl) (fun _ _ _ h => h) (Or.inl ⟨by kernel_rfl, ?_⟩) (by assumption) ?_
    rotate_left
    · intro w hSw; (try dsimp only at hSw); go_simp; try with_reducible rfl
    try simp only [Act.put, List.setIfInBounds_toArray, List.set_cons_zero, List.set_cons_succ]
    refine wpAnyH_take (i := 1) (oi := ⟨some 55, _, _, _, _, _⟩) (v := ?_) rfl (by kernel_rfl) (by kernel_rfl) (by kernel_rfl) (fun _ _ _ h => h) (Or.inl ⟨by kernel_rfl, ?_⟩) (by assumption) ?_
    rotate_left
    · intro w hSw; (try dsimp only at hSw); go_simp; try with_reducible rfl
    try simp only [Act.put, List.setIfInBounds_toArray, List.set_cons_zero, List.set_cons_succ]
    refine wpAnyH_take (i := 2) (oi := ⟨some 56, _, _, _, _, _⟩) (v := ?_) rfl (by kernel_rfl) (by kernel_rfl) (by kernel_rfl) (fun _ _ _ h => h) (Or.inl ⟨by kernel_rfl, ?_⟩) (by assumption) ?_
    rotate_left
    · intro w hSw; (try dsimp only at hSw); go_simp; try with_reducible rfl
    try simp only [Act.put, List.setIfInBounds_toArray, List.set_cons_zero, List.set_cons_succ]
    refine wpAnyH_take (i := 5) (oi := ⟨some 59, _, _, _, _, _⟩) (v := ?_) rfl (by kernel_rfl) (by kernel_rfl) (by kernel_rfl) (fun _ _ _ h => h) (Or.inl ⟨by kernel_rfl, ?_⟩) (by assumption) ?_
    rotate_left
    · intro w hSw; (try dsimp only at hSw); go_simp; try with_reducible rfl
    try simp only [Act.put, List.setIfInBounds_toArray, List.set_cons_zero, List.set_cons_succ]
    refine wpAnyH_take (i := 6) (oi := ⟨some 60, _, _, _, _, _⟩) (v := ?_) rfl (by kernel_rfl) (by kernel_rfl) (by kernel_rfl) (fun _ _ _ h => h) (Or.inl ⟨by kernel_rfl, ?_⟩) (by assumption) ?_
    rotate_left
    · intro w hSw; (try dsimp only at hSw); go_simp; try with_reducible rfl
    try simp only [Act.put, List.setIfInBounds_toArray, List.set_cons_zero, List.set_cons_succ]
    refine wpAnyH_ready (rs := [3]) (by kernel_rfl) (by simp) ?_
    refine AllReadyH.cons rfl (fun K hK => ?_) AllReadyH.nil
    go_simp
    go_at_call 24; (with_reducible refine (N4.out _ (by first | exact HX.out.bel | exact HX.out.bel.drew)).mono ?_); rintro e w1 ⟨rfl, hb⟩; have HY := Lib.hid (HX.out.below (show Below wc.heap.size wc w1 from ⟨hb.os, hb.tape, hb.output, hb.size, hb.block⟩)); have kHY := HY.out.box; clear hb
    go_simp
    refine hK.out _ _ kHY (fun hHeld => ?_)
    clear hK K
    try simp only [Act.put, List.setIfInBounds_toArray, List.set_cons_zero, List.set_cons_succ]
    refine wpAnyH_take (i := 4) (oi := ⟨some 58, _, _, _, _, _⟩) (v := .string (toB T3 ++ V4)) rfl (by kernel_rfl) (by kernel_rfl) (by kernel_rfl) (fun _ _ _ h => h) (Or.inl ⟨by kernel_rfl, ?_⟩) (by assumption) ?_
    · intro w hSw; (try dsimp only at hSw); go_simp; omega
    try simp only [Act.put, List.setIfInBounds_toArray, List.set_cons_zero, List.set_cons_succ]
    refine wpAnyH_ready (rs := [7]) (by kernel_rfl) (by simp) ?_
    refine AllReadyH.cons rfl (fun K hK => ?_) AllReadyH.nil
    go_simp
    go_at_call 24; (with_reducible refine (N5.out _ HY.out.bel).mono ?_); rintro e w2 ⟨rfl, hb⟩; have HZ := Lib.hid (HY.out.below (show Below w1.heap.size w1 w2 from ⟨hb.os, hb.tape, hb.output, hb.size, hb.block⟩)); have kHZ := HZ.out.box; clear hb
    go_simp
    refine hK.out _ _ kHZ (fun hHeld => ?_)
    clear hK K
    try simp only [Act.put, List.setIfInBounds_toArray, List.set_cons_zero, List.set_cons_succ]
    refine wpAnyH_take (i := 8) (oi := ⟨some 62, _, _, _, _, _⟩) (v := .string (toB T3 ++ V4 ++ V5)) rfl (by kernel_rfl) (by kernel_rfl) (by kernel_rfl) (fun _ _ _ h => h) (Or.inl ⟨by kernel_rfl, ?_⟩) (by assumption) ?_
    · intro w hSw; (try dsimp only at hSw); go_simp; omega
    try simp only [Act.put, List.setIfInBounds_toArray, List.set_cons_zero, List.set_cons_succ]
    refine wpAnyH_take (i := 9) (oi := ⟨some 5, _, _, _, _, _⟩) (v := ?_) rfl (by kernel_rfl) (by kernel_rfl) (by kernel_rfl) (fun _ _ _ h => h) (Or.inl ⟨by kernel_rfl, ?_⟩) (by assumption) ?_
    rotate_left
    · intro w hSw; (try dsimp only at hSw); go_simp; try with_reducible rfl
    try simp only [Act.put, List.setIfInBounds_toArray, List.set_cons_zero, List.set_cons_succ]
    refine wpAnyH_done (by kernel_rfl) ?_ _
    all_goals
      go_wp2_with fail
      go_meet
      first
        | exact ⟨congrArg Value.string E4.out, HZ⟩
        | exact ⟨congrArg Value.string E4.out, Lib.hid HZ.out.drew⟩
  case rest =>
  obtain ⟨rfl, HX⟩ := hcut
  have kA := HX.out.box
  go_wp2_with fail
  go_loopw [5, 66] (fun v i wr => ∃ k : Nat, k ≤ ny ∧ i = .int .i64 (k : Nat) ∧ v = .string (toB (T4 ++ daysT (r.byDay.take k))) ∧ Hid (XS w #[.int .i64 (fk : Nat), .int .i64 r.interval, .int .i64 r.count, .int .i64 r.until_, .slice om nm cm, .slice od nd cd, .slice oy ny cy, .slice op np cp, .int .i64 r.start] wr)) (fun _ i _ => ny - (intOf i).toNat)
  case atStart => exact ⟨0, Nat.zero_le _, rfl, by rw [List.take_zero]; exact congrArg (fun l => Value.string (toB l)) (List.append_nil T4).symm, HX⟩
  case round =>
    obtain ⟨k, hkn, rfl, rfl, HW⟩ := hrel
    have kA := HW.out.box
    have kD := HW.out.days
    by_cases hlt : k < ny
    · have hlt' : (k : Int) < (ny : Int) := by omega
      obtain ⟨x, a1, cs1, hx, rfl, q1, ⟨rfl, _, _⟩, q0, q0'⟩ := HRY.out.elem HW.out.bel k hlt
      have e0 := q0 (by decide)
      have e1 := q0' 1 (by decide) (by decide)
      simp only [List.getElem?_cons_zero, List.getElem?_cons_succ] at e0 e1
      have hxb := HDB.out x (List.mem_of_getElem? hx)
      have HT := Lib.hid (show r.byDay.take (k + 1) = r.byDay.take k ++ [x] by rw [List.take_succ, hx]; rfl)
      obtain ⟨dy, hdy⟩ : ∃ dy : Nat, x.day = (dy : Int) := ⟨x.day.toNat, by omega⟩
      have hdy7 : dy < 7 := by omega
      have hdd := daysC_at dy hdy7
      have NX := Lib.hid (fun W => refNum_any x.n (by omega) (by omega) W)
      have s1 : (toB (Lib.itoa x.n)).size ≤ 21 := by rw [toB_size]; exact Lib.itoa_length_le x.n (by omega) (by omega)
      have s2 : (toB (T4 ++ daysT (r.byDay.take k))).size ≤ 900000 := by rw [toB_size]; exact HTL.out k
      have s3 : (toB (dayT dy)).size ≤ 2 := by rw [toB_size]; exact dayT_len _
      have hdy7' : (dy : Int) < 7 := by omega
      have HK := Lib.hid (show ∀ v : ByteArray, v = toB (T4 ++ daysT (r.byDay.take k)) ++ (if k = 0 then ⟨#[59, 66, 89, 68, 65, 89, 61]⟩ else ⟨#[44]⟩) ++ (if x.n = 0 then ⟨#[]⟩ else toB (Lib.itoa x.n)) ++ toB (dayT dy) → v = toB (T4 ++ daysT (r.byDay.take (k + 1))) from fun v hv => by
        rw [hv, HT.out]
        have e9 : (if x.n = 0 then (⟨#[]⟩ : ByteArray) else toB (Lib.itoa x.n)) = toB (if x.n = 0 then [] else Lib.itoa x.n) := by split <;> rfl
        rw [e9, ← hdy]
        by_cases hk0 : k = 0
        · rw [if_pos hk0, hk0, List.take_zero, List.nil_append, daysT_one, show ((⟨#[59, 66, 89, 68, 65, 89, 61]⟩ : ByteArray)) = toB (59 :: kBYDAY) from rfl]
          have : daysT [] = [] := rfl
          rw [this]
          simp only [toB_append, List.append_nil, List.append_assoc]
        · have hne : r.byDay.take k ≠ [] := fun e => by
            have h1 := congrArg List.length e
            rw [List.length_take, HLY.out] at h1
            simp at h1
            omega
          rw [if_neg hk0, daysT_snoc _ _ hne, show ((⟨#[44]⟩ : ByteArray)) = toB [44] from rfl]
          simp only [toB_append, List.append_assoc])
      rw [hdy] at e1
      clear q0 q0' q1 hx hxb hdy
      by_cases hk0 : k = 0
      · have b0 : ((k : Int) == 0) = true := by simp [hk0]
        by_cases hn0 : x.n = 0
        · have b1 : (x.n != 0) = false := by simp [hn0]
          have HK2 := Lib.hid (HK.out (toB (T4 ++ daysT (r.byDay.take k)) ++ ⟨#[59, 66, 89, 68, 65, 89, 61]⟩ ++ toB (dayT dy)) (by rw [if_pos hk0, if_pos hn0]; congr 1; apply ByteArray.ext; simp))
          have HK0 := Lib.hid hk0
          clear hk0 hn0
          go_wp2_with fail
          go_roundw
          case measure => simp [intOf]; omega
          case rel => exact ⟨k + 1, by omega, by go_num, by rw [← HK2.out], HW⟩
        · have b1 : (x.n != 0) = true := by simp [hn0]
          have HK2 := Lib.hid (HK.out (toB (T4 ++ daysT (r.byDay.take k)) ++ ⟨#[59, 66, 89, 68, 65, 89, 61]⟩ ++ toB (Lib.itoa x.n) ++ toB (dayT dy)) (by rw [if_pos hk0, if_neg hn0]))
          clear hk0 hn0
          go_wp2_with (go_at_call 22; ((with_reducible refine (NX.out _).mono ?_); rintro e w1 ⟨rfl, hb⟩; have HV := Lib.hid (HW.out.below hb); have kA1 := HV.out.box; have kD1 := HV.out.days; have eb1 := (hb.cell (World.block_lt_of_cell? _ _ e1)).trans e1; clear hb))
          go_roundw
          case measure => simp [intOf]; omega
          case rel => exact ⟨k + 1, by omega, by go_num, by rw [← HK2.out], HV⟩
      · have b0 : ((k : Int) == 0) = false := by simp [hk0]
        by_cases hn0 : x.n = 0
        · have b1 : (x.n != 0) = false := by simp [hn0]
          have HK2 := Lib.hid (HK.out (toB (T4 ++ daysT (r.byDay.take k)) ++ ⟨#[44]⟩ ++ toB (dayT dy)) (by rw [if_neg hk0, if_pos hn0]; congr 1; apply ByteArray.ext; simp))
          clear hk0 hn0
          go_wp2_with fail
          go_roundw
          case measure => simp [intOf]; omega
          case rel => exact ⟨k + 1, by omega, by go_num, by rw [← HK2.out], HW⟩
        · have b1 : (x.n != 0) = true := by simp [hn0]
          have HK2 := Lib.hid (HK.out (toB (T4 ++ daysT (r.byDay.take k)) ++ ⟨#[44]⟩ ++ toB (Lib.itoa x.n) ++ toB (dayT dy)) (by rw [if_neg hk0, if_neg hn0]))
          clear hk0 hn0
          go_wp2_with (go_at_call 22; ((with_reducible refine (NX.out _).mono ?_); rintro e w1 ⟨rfl, hb⟩; have HV := Lib.hid (HW.out.below hb); have kA1 := HV.out.box; have kD1 := HV.out.days; have eb1 := (hb.cell (World.block_lt_of_cell? _ _ e1)).trans e1; clear hb))
          go_roundw
          case measure => simp [intOf]; omega
          case rel => exact ⟨k + 1, by omega, by go_num, by rw [← HK2.out], HV⟩
    · obtain rfl : ny = k := by omega
      have tk : r.byDay.take ny = r.byDay := List.take_of_length_le (by rw [HLY.out]; exact Nat.le_refl _)
      have ys : (toB (T4 ++ daysT r.byDay)).size ≤ 900000 := by rw [← tk, toB_size]; exact HTL.out ny
      rw [tk]
      clear tk
      go_upto_if 110 with (go_at_call 24; ((with_reducible refine (N7.out _ HW.out.bel).mono ?_); rintro e w1 ⟨rfl, hb⟩; have HV := Lib.hid (HW.out.below hb); have kA1 := HV.out.box; have kD1 := HV.out.days; clear hb))
      rw [E6.out]
      by_cases c : 0 < r.start
      · have d := decide_eq_true c
        have P := Lib.hid c
        have HE := Lib.hid (E7y.out c)
        have hst := HST.out
        rw [hst] at d kA1
        go_wp2_with fail
        go_ret
        exact ⟨ret_s HE.out, HV.out.bel⟩
      · have d := decide_eq_false c
        have HE := Lib.hid (E7n.out (by omega))
        go_wp2_with fail
        go_ret
        exact ⟨ret_s HE.out, HV.out.bel⟩
end Go.Proofs.YtcleicjgeflbnaaGreatDoor
