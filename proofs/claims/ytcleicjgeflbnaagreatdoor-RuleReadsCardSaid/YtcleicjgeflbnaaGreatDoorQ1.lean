/- What is read of a rule's text: plain laws. A rule that may be is read of its text. Condition: the rule may be. -/
import Derived.Test.YtcleicjgeflbnaaGreatDoorX5
import Derived.Test.YtcleicjgeflbnaaGreatDoorV10
import Derived.Test.YtcleicjgeflbnaaGreatDoorC7
import Derived.Lib.AtoiAllCases
namespace Go.Proofs.YtcleicjgeflbnaaGreatDoor
open Go.RowKit Go.ChangeShapes Go.WideShapes Go.Deep
set_option linter.all false

/-- The numbers of a row. -/
def numsZ (s : ByteArray) : List Int := (splitB 44 s).map numZ
def dnsZ (s : ByteArray) : List DayND := (splitB 44 s).map (dayF numZ)
def longS (s : ByteArray) : ByteArray := s.extract 0 4 ++ ⟨#[45]⟩ ++ s.extract 4 6 ++ ⟨#[45]⟩ ++ s.extract 6 11 ++ ⟨#[58]⟩ ++ s.extract 11 s.size
/-- A stamp that was written without signs; -2: it is none. -/
def longZ (s : ByteArray) : Int := if s.size = 13 then (if (rsF (longS s)).2 = true then (rsF (longS s)).1 else -2) else -2
def nFREQ : List UInt8 := [70, 82, 69, 81]
def nINTERVAL : List UInt8 := [73, 78, 84, 69, 82, 86, 65, 76]
def nCOUNT : List UInt8 := [67, 79, 85, 78, 84]
def nUNTIL : List UInt8 := [85, 78, 84, 73, 76]
def nBYMONTH : List UInt8 := [66, 89, 77, 79, 78, 84, 72]
def nBYMONTHDAY : List UInt8 := [66, 89, 77, 79, 78, 84, 72, 68, 65, 89]
def nBYDAY : List UInt8 := [66, 89, 68, 65, 89]
def nBYSETPOS : List UInt8 := [66, 89, 83, 69, 84, 80, 79, 83]
def nWKST : List UInt8 := [87, 75, 83, 84]
/-- What a part says of a rule. -/
def setP (k v : ByteArray) (r : RuleD) : Option RuleD :=
  if k.data.toList = nFREQ then some { r with freq := idxL freqsL v.data.toList + 1 }
  else if k.data.toList = nINTERVAL then some { r with interval := numZ v }
  else if k.data.toList = nCOUNT then some { r with count := numZ v }
  else if k.data.toList = nUNTIL then some { r with until_ := longZ v }
  else if k.data.toList = nBYMONTH then some { r with byMonth := numsZ v }
  else if k.data.toList = nBYMONTHDAY then some { r with byMonthDay := numsZ v }
  else if k.data.toList = nBYDAY then some { r with byDay := dnsZ v }
  else if k.data.toList = nBYSETPOS then some { r with bySetPos := numsZ v }
  else if k.data.toList = nWKST then some { r with start := idxL daysL v.data.toList }
  else none
def cutK (p : ByteArray) : ByteArray := if Lib.indexByte p.data.toList 61 < 0 then p else p.extract 0 (Lib.indexByte p.data.toList 61).toNat
def cutV (p : ByteArray) : ByteArray := if Lib.indexByte p.data.toList 61 < 0 then ⟨#[]⟩ else p.extract ((Lib.indexByte p.data.toList 61).toNat + 1) p.size
def readL : List ByteArray → RuleD → Option RuleD
  | [], r => some r
  | p :: t, r => match setP (cutK p) (cutV p) r with
    | none => none
    | some r' => readL t r'
def ruleZ : RuleD := { freq := 0, interval := 0, count := 0, until_ := 0, byMonth := [], byMonthDay := [], byDay := [], bySetPos := [], start := 0 }
def ruleB : RuleD := { freq := 0, interval := 1, count := 0, until_ := -1, byMonth := [], byMonthDay := [], byDay := [], bySetPos := [], start := 0 }

theorem readL_app {a b : List ByteArray} {r r1 : RuleD} (h : readL a r = some r1) : readL (a ++ b) r = readL b r1 := by
  induction a generalizing r with
  | nil => rw [readL] at h; rw [List.nil_append, Option.some.inj h]
  | cons p t ih =>
    rw [List.cons_append]
    rw [readL] at h ⊢
    cases e : setP (cutK p) (cutV p) r with
    | none => rw [e] at h; cases h
    | some r' => rw [e] at h; exact ih h

theorem indexByte_first (d : UInt8) (v : List UInt8) : ∀ k : List UInt8, d ∉ k → Lib.indexByte (k ++ d :: v) d = (k.length : Int)
  | [], _ => by rw [List.nil_append, Lib.indexByte]; simp
  | b :: t, h => by
    have hb : ¬ b = d := fun e => h (by simp [e])
    have h1 : (b == d) = false := by simpa using hb
    have ih := indexByte_first d v t (fun hm => h (List.mem_cons_of_mem _ hm))
    rw [List.cons_append, Lib.indexByte, h1, ih]
    simp only [Bool.false_eq_true, if_false]
    rw [if_neg (by simp)]
    simp
theorem cut_kv (k v : List UInt8) (h : (61 : UInt8) ∉ k) : cutK (toB (k ++ 61 :: v)) = toB k ∧ cutV (toB (k ++ 61 :: v)) = toB v := by
  have e : Lib.indexByte (toB (k ++ 61 :: v)).data.toList 61 = (k.length : Int) := indexByte_first 61 v k h
  have hn : ¬ ((k.length : Int) < 0) := by omega
  unfold cutK cutV
  rw [e, if_neg hn, if_neg hn, Int.toNat_natCast]
  constructor
  · rw [← toB_of ((toB (k ++ 61 :: v)).extract 0 k.length), extr_list, toB_data]
    simp
  · rw [← toB_of ((toB (k ++ 61 :: v)).extract (k.length + 1) _), extr_list, toB_data, toB_size]
    congr 1
    rw [show k ++ 61 :: v = (k ++ [61]) ++ v by simp, List.drop_append_of_le_length (by simp), List.drop_of_length_le (by simp), List.nil_append, List.take_of_length_le]
    simp
    omega

/-! ### What is read of what was written -/
theorem parse_snoc (b : UInt8) (hb : 48 ≤ b.toNat ∧ b.toNat ≤ 57) : ∀ (l : List UInt8) (acc u : Nat), Lib.parseUint10 acc l = .ok u → u < 1844674407370955162 → u * 10 + (b.toNat - 48) < 18446744073709551616 → Lib.parseUint10 acc (l ++ [b]) = .ok (u * 10 + (b.toNat - 48))
  | [], acc, u, h, h1, h2 => by
    simp only [Lib.parseUint10, Lib.NumEnd.ok.injEq] at h
    subst h
    simp only [List.nil_append, Lib.parseUint10]
    rw [if_pos hb, if_neg (by omega), if_neg (by omega)]
  | c :: r, acc, u, h, h1, h2 => by
    rw [List.cons_append]
    simp only [Lib.parseUint10] at h ⊢
    split at h
    · rename_i hc
      rw [if_pos hc]
      split at h
      · cases h
      · rename_i h3
        rw [if_neg h3]
        split at h
        · cases h
        · rename_i h4
          rw [if_neg h4]
          exact parse_snoc b hb r _ u h h1 h2
    · cases h
theorem parse_dec (u : Nat) (hu : u < 9223372036854775809) : Lib.parseUint10 0 (Lib.decDigits u) = .ok u := by
  induction u using Nat.strongRecOn with
  | _ u ih =>
    rw [decDigits_rec]
    split
    · rename_i h
      have e : (UInt8.ofNat (48 + u)).toNat = 48 + u := by rw [UInt8.toNat_ofNat']; omega
      simp only [Lib.parseUint10]
      rw [e, if_pos (by omega), if_neg (by omega), if_neg (by omega)]
      congr 1
      omega
    · rename_i h
      have e : (UInt8.ofNat (48 + u % 10)).toNat = 48 + u % 10 := by rw [UInt8.toNat_ofNat']; omega
      rw [parse_snoc _ (by rw [e]; omega) _ 0 (u / 10) (ih (u / 10) (by omega) (by omega)) (by omega) (by rw [e]; omega), e]
      congr 1
      omega
theorem mag_dec (u : Nat) (hu : u < 9223372036854775809) : Lib.parseMag (Lib.decDigits u) = .ok u := by
  unfold Lib.parseMag
  rw [if_neg (dec_ne u), parse_dec u hu]
theorem atoi_itoa (n : Int) (h0 : -9223372036854775808 ≤ n) (h1 : n ≤ 9223372036854775807) : Lib.atoiAll (Lib.itoa n) = .ok n := by
  unfold Lib.itoa
  split
  · rename_i h
    rw [Lib.atoiAll_minus, mag_dec _ (by omega)]
    simp only [Lib.signed]
    rw [if_neg (by omega)]
    congr 1
    omega
  · rename_i h
    cases hd : Lib.decDigits n.toNat with
    | nil => exact absurd hd (dec_ne _)
    | cons c r =>
      have hc := dec_dig n.toNat c (by rw [hd]; simp)
      rw [Lib.atoiAll_plain c r (by omega) (by omega), ← hd, mag_dec _ (by omega)]
      simp only [Lib.signless]
      rw [if_neg (by omega)]
      congr 1
      omega
theorem num_itoa (n : Int) (h0 : -9223372036854775808 ≤ n) (h1 : n ≤ 9223372036854775807) : numZ (toB (Lib.itoa n)) = n := by
  unfold numZ
  rw [toB_data, atoi_itoa n h0 h1]
theorem num_nil : numZ (toB []) = 0 := by decide
theorem idx_freq {n : Int} (h0 : 1 ≤ n) (h1 : n ≤ 4) : idxL freqsL (freqT n) + 1 = n := by
  have h : ∀ k : Fin 4, idxL freqsL (freqsL.getD k.val []) = k.val := by decide
  have := h ⟨(n - 1).toNat, by omega⟩
  unfold freqT
  rw [this]
  simp only
  omega
theorem idx_day {n : Int} (h0 : 0 ≤ n) (h1 : n ≤ 6) : idxL daysL (dayT n) = n := by
  have h : ∀ k : Fin 7, idxL daysL (daysL.getD k.val []) = k.val := by decide
  have := h ⟨n.toNat, by omega⟩
  unfold dayT
  rw [this]
  simp only
  omega
theorem split_row {α : Type} (f : α → List UInt8) (l : List α) (hne : l ≠ []) (h : ∀ x ∈ l, (44 : UInt8) ∉ f x) : splitB 44 (toB (Lib.join (l.map f) [44])) = l.map fun x => toB (f x) := by
  unfold splitB
  rw [toB_data, split_join 44 (l.map f) (by simpa using hne) (fun x hx => by obtain ⟨y, hy, rfl⟩ := List.mem_map.1 hx; exact h y hy), List.map_map]
  rfl
theorem map_id_on {α β : Type} (f : α → β) (g : β → α) : ∀ (l : List α), (∀ x ∈ l, g (f x) = x) → (l.map f).map g = l
  | [], _ => rfl
  | x :: r, h => by rw [List.map_cons, List.map_cons, h x (by simp), map_id_on f g r (fun y hy => h y (List.mem_cons_of_mem _ hy))]
theorem nums_row (l : List Int) (hne : l ≠ []) (h : ∀ x ∈ l, -9223372036854775808 ≤ x ∧ x ≤ 9223372036854775807) : numsZ (toB (Lib.join (l.map Lib.itoa) [44])) = l := by
  unfold numsZ
  rw [split_row Lib.itoa l hne (fun x _ => itoa_no x 44 (.inl rfl))]
  exact map_id_on _ _ l (fun x hx => num_itoa x (h x hx).1 (h x hx).2)
theorem day_read (d : DayND) (h0 : 0 ≤ d.day) (h1 : d.day ≤ 6) (h2 : -5 ≤ d.n) (h3 : d.n ≤ 5) : dayF numZ (toB (dayNT d)) = d := by
  have e : (dayNT d).length - 2 = (if d.n = 0 then ([] : List UInt8) else Lib.itoa d.n).length := by
    rw [dayNT_eq, List.length_append, (dayT_two ⟨h0, h1⟩).1]; omega
  have l2 := (dayT_two ⟨h0, h1⟩).1
  unfold dayF
  rw [toB_size, e]
  have e1 : (toB (dayNT d)).extract 0 (if d.n = 0 then ([] : List UInt8) else Lib.itoa d.n).length = toB (if d.n = 0 then [] else Lib.itoa d.n) := by
    rw [← toB_of ((toB (dayNT d)).extract 0 _), extr_list, toB_data, dayNT_eq]
    simp
  have e2 : ((toB (dayNT d)).extract (if d.n = 0 then ([] : List UInt8) else Lib.itoa d.n).length (dayNT d).length).data.toList = dayT d.day := by
    rw [extr_list, toB_data, dayNT_eq, List.drop_left, List.take_of_length_le (by simp)]
  rw [e1, e2, idx_day h0 h1]
  have e3 : numZ (toB (if d.n = 0 then ([] : List UInt8) else Lib.itoa d.n)) = d.n := by
    split
    · rename_i h; rw [num_nil, h]
    · exact num_itoa _ (by omega) (by omega)
  rw [e3]
theorem days_row (l : List DayND) (hne : l ≠ []) (h : ∀ d ∈ l, 0 ≤ d.day ∧ d.day ≤ 6 ∧ -5 ≤ d.n ∧ d.n ≤ 5) : dnsZ (toB (Lib.join (l.map dayNT) [44])) = l := by
  unfold dnsZ
  rw [split_row dayNT l hne (fun x hx => dayNT_no ⟨(h x hx).1, (h x hx).2.1⟩ 44 (.inl rfl))]
  exact map_id_on _ _ l (fun d hd => day_read d (h d hd).1 (h d hd).2.1 (h d hd).2.2.1 (h d hd).2.2.2)
theorem ext_toB (l : List UInt8) (i j : Nat) : (toB l).extract i j = toB ((l.drop i).take (j - i)) := by
  rw [← toB_of ((toB l).extract i j), extr_list, toB_data]
theorem long_short (n : Int) (h0 : 0 ≤ n) (h1 : n ≤ 158310720) : longZ (toB (shortT n)) = n := by
  have hs : longS (toB (shortT n)) = strOfNums (stampText n) := by
    have e1 := shortT_eq n
    have e2 : u8l (stampText n) = u8l (digs (dateY (sDay n)) 4) ++ (45 :: (u8l (digs (dateM (sDay n)) 2) ++ (45 :: (u8l (digs (dD (sDay n)) 2) ++ (84 :: (u8l (digs (sMin n / 60) 2) ++ (58 :: u8l (digs (sMin n % 60) 2)))))))) := by
      unfold stampText minText
      simp only [u8l_append, u8l_cons]
      rfl
    have k4 : ∀ x, ∃ a b c d, u8l (digs x 4) = [a, b, c, d] := fun x => by
      have h : (u8l (digs x 4)).length = 4 := by rw [u8l_length, digs_length]
      revert h
      generalize u8l (digs x 4) = l
      intro h
      match l, h with
      | [a, b, c, d], _ => exact ⟨a, b, c, d, rfl⟩
    have k2 : ∀ x, ∃ a b, u8l (digs x 2) = [a, b] := fun x => by
      have h : (u8l (digs x 2)).length = 2 := by rw [u8l_length, digs_length]
      revert h
      generalize u8l (digs x 2) = l
      intro h
      match l, h with
      | [a, b], _ => exact ⟨a, b, rfl⟩
    obtain ⟨y0, y1, y2, y3, ey⟩ := k4 (dateY (sDay n))
    obtain ⟨m0, m1, em⟩ := k2 (dateM (sDay n))
    obtain ⟨d0, d1, ed⟩ := k2 (dD (sDay n))
    obtain ⟨p0, p1, ep⟩ := k2 (sMin n / 60)
    obtain ⟨q0, q1, eq⟩ := k2 (sMin n % 60)
    rw [ey, em, ed, ep, eq] at e1 e2
    rw [str_u8l, e2, e1]
    unfold longS
    rw [toB_size, ext_toB, ext_toB, ext_toB, ext_toB, show (⟨#[45]⟩ : ByteArray) = toB [45] from rfl, show (⟨#[58]⟩ : ByteArray) = toB [58] from rfl]
    simp only [toB_append]
    congr 1
  unfold longZ
  rw [hs, rsF_text n h0 h1, toB_size, shortT_length, if_pos rfl, if_pos rfl]

/-! ### A rule that may be is read of its text -/
theorem readL_opt (c : Prop) [Decidable c] (k v : List UInt8) (r r1 : RuleD) (hk : (61 : UInt8) ∉ k) (h : setP (toB k) (toB v) r = some r1) : readL ((optP c ((k ++ [61]) ++ v)).map toB) r = some (if c then r1 else r) := by
  unfold optP
  split
  · rw [List.map_cons, List.map_nil, readL, show (k ++ [61]) ++ v = k ++ 61 :: v by simp, (cut_kv k v hk).1, (cut_kv k v hk).2, h]
    rfl
  · rfl
theorem readL_row {α : Type} (f : α → List UInt8) (l : List α) (k : List UInt8) (r r1 : RuleD) (hk : (61 : UInt8) ∉ k) (h : l ≠ [] → setP (toB k) (toB (Lib.join (l.map f) [44])) r = some r1) (h0 : l = [] → r1 = r) : readL ((rowP (k ++ [61]) f l).map toB) r = some r1 := by
  unfold rowP
  split
  · rename_i hl
    rw [h0 (List.eq_nil_of_length_eq_zero hl)]
    rfl
  · rename_i hl
    rw [List.map_cons, List.map_nil, readL, show (k ++ [61]) ++ Lib.join (l.map f) [44] = k ++ 61 :: Lib.join (l.map f) [44] by simp, (cut_kv k _ hk).1, (cut_kv k _ hk).2, h (fun e => hl (by rw [e]; rfl))]
    rfl
theorem set1 (v : ByteArray) (r : RuleD) : setP (toB nFREQ) v r = some { r with freq := idxL freqsL v.data.toList + 1 } := rfl
theorem set2 (v : ByteArray) (r : RuleD) : setP (toB nINTERVAL) v r = some { r with interval := numZ v } := rfl
theorem set3 (v : ByteArray) (r : RuleD) : setP (toB nCOUNT) v r = some { r with count := numZ v } := rfl
theorem set4 (v : ByteArray) (r : RuleD) : setP (toB nUNTIL) v r = some { r with until_ := longZ v } := rfl
theorem set5 (v : ByteArray) (r : RuleD) : setP (toB nBYMONTH) v r = some { r with byMonth := numsZ v } := rfl
theorem set6 (v : ByteArray) (r : RuleD) : setP (toB nBYMONTHDAY) v r = some { r with byMonthDay := numsZ v } := rfl
theorem set7 (v : ByteArray) (r : RuleD) : setP (toB nBYDAY) v r = some { r with byDay := dnsZ v } := rfl
theorem set8 (v : ByteArray) (r : RuleD) : setP (toB nBYSETPOS) v r = some { r with bySetPos := numsZ v } := rfl
theorem set9 (v : ByteArray) (r : RuleD) : setP (toB nWKST) v r = some { r with start := idxL daysL v.data.toList } := rfl
theorem row_bd {m : Nat} {b : Bool} {l : List Int} (h : rowMay m b l) (hm : m ≤ 10000) : ∀ x ∈ l, -9223372036854775808 ≤ x ∧ x ≤ 9223372036854775807 := fun x hx => by
  have := h.1 x hx
  unfold rowOne at this
  omega
theorem read_text {r : RuleD} (hm : mayR r) : readL (splitB 59 (toB (textR shortT r))) ruleB = some r := by
  have hno := parts_no hm
  have hne : partsR shortT r ≠ [] := fun e => by rw [← keyed_flat] at e; simp [keyed] at e
  have hsp : splitB 59 (toB (textR shortT r)) = (partsR shortT r).map toB := by
    unfold splitB textR
    rw [toB_data, split_join 59 _ hne hno]
  obtain ⟨p1, p2, p3, p4, p5, p6, p7, p8, p9, p10, p11, p12, p13⟩ := hm
  unfold endsMay at p5
  rw [hsp]
  obtain ⟨fr, iv, ct, un, bm, bd, by_, bp, st⟩ := r
  simp only at p1 p2 p3 p4 p5 p6 p7 p8 p9 p10 p11 p12 p13
  have a1 : readL ([kFREQ ++ freqT fr].map toB) ruleB = some { ruleB with freq := fr } := by
    have := readL_opt True nFREQ (freqT fr) ruleB _ (by decide) (set1 _ _)
    rw [toB_data, idx_freq p1 p2] at this
    exact this
  have a2 : readL ((optP (iv ≠ 1) (kINTERVAL ++ Lib.itoa iv)).map toB) { ruleB with freq := fr } = some { ruleB with freq := fr, interval := iv } := by
    have := readL_opt (iv ≠ 1) nINTERVAL (Lib.itoa iv) { ruleB with freq := fr } _ (by decide) (set2 _ _)
    rw [num_itoa iv (by omega) (by omega)] at this
    refine this.trans ?_
    split
    · rfl
    · rename_i h; rw [Classical.not_not.1 h]; rfl
  have a3 : readL ((optP (0 < ct) (kCOUNT ++ Lib.itoa ct)).map toB) { ruleB with freq := fr, interval := iv } = some { ruleB with freq := fr, interval := iv, count := ct } := by
    have := readL_opt (0 < ct) nCOUNT (Lib.itoa ct) { ruleB with freq := fr, interval := iv } _ (by decide) (set3 _ _)
    rw [num_itoa ct (by omega) (by omega)] at this
    refine this.trans ?_
    split
    · rfl
    · rw [show ct = 0 by omega]; rfl
  have a4 : readL ((optP (0 ≤ un) (kUNTIL ++ shortT un)).map toB) { ruleB with freq := fr, interval := iv, count := ct } = some { ruleB with freq := fr, interval := iv, count := ct, until_ := un } := by
    have := readL_opt (0 ≤ un) nUNTIL (shortT un) { ruleB with freq := fr, interval := iv, count := ct } _ (by decide) (set4 _ _)
    refine this.trans ?_
    split
    · rw [long_short un (by omega) (by omega)]
    · rw [show un = -1 by omega]; rfl
  have a5 := readL_row Lib.itoa bm nBYMONTH { ruleB with freq := fr, interval := iv, count := ct, until_ := un } { ruleB with freq := fr, interval := iv, count := ct, until_ := un, byMonth := bm } (by decide)
    (fun h => by rw [set5, nums_row bm h (row_bd p6 (by decide))]) (fun h => by rw [h]; rfl)
  have a6 := readL_row Lib.itoa bd nBYMONTHDAY { ruleB with freq := fr, interval := iv, count := ct, until_ := un, byMonth := bm } { ruleB with freq := fr, interval := iv, count := ct, until_ := un, byMonth := bm, byMonthDay := bd } (by decide)
    (fun h => by rw [set6, nums_row bd h (row_bd p7 (by decide))]) (fun h => by rw [h]; rfl)
  have a7 := readL_row dayNT by_ nBYDAY { ruleB with freq := fr, interval := iv, count := ct, until_ := un, byMonth := bm, byMonthDay := bd } { ruleB with freq := fr, interval := iv, count := ct, until_ := un, byMonth := bm, byMonthDay := bd, byDay := by_ } (by decide)
    (fun h => by rw [set7, days_row by_ h (fun d hd => ⟨(p9.1 d hd).1, (p9.1 d hd).2.1, (p9.1 d hd).2.2.1, (p9.1 d hd).2.2.2.1⟩)]) (fun h => by rw [h]; rfl)
  have a8 := readL_row Lib.itoa bp nBYSETPOS { ruleB with freq := fr, interval := iv, count := ct, until_ := un, byMonth := bm, byMonthDay := bd, byDay := by_ } { ruleB with freq := fr, interval := iv, count := ct, until_ := un, byMonth := bm, byMonthDay := bd, byDay := by_, bySetPos := bp } (by decide)
    (fun h => by rw [set8, nums_row bp h (row_bd p10 (by decide))]) (fun h => by rw [h]; rfl)
  have a9 : readL ((optP (0 < st) (kWKST ++ dayT st)).map toB) { ruleB with freq := fr, interval := iv, count := ct, until_ := un, byMonth := bm, byMonthDay := bd, byDay := by_, bySetPos := bp } = some ⟨fr, iv, ct, un, bm, bd, by_, bp, st⟩ := by
    have := readL_opt (0 < st) nWKST (dayT st) { ruleB with freq := fr, interval := iv, count := ct, until_ := un, byMonth := bm, byMonthDay := bd, byDay := by_, bySetPos := bp } _ (by decide) (set9 _ _)
    rw [toB_data, idx_day p12 p13] at this
    refine this.trans ?_
    split
    · rfl
    · rw [show st = 0 by omega]; rfl
  unfold partsR
  simp only [List.map_append, List.append_assoc]
  exact (readL_app a1).trans ((readL_app a2).trans ((readL_app a3).trans ((readL_app a4).trans ((readL_app a5).trans ((readL_app a6).trans ((readL_app a7).trans ((readL_app a8).trans a9)))))))
end Go.Proofs.YtcleicjgeflbnaaGreatDoor
