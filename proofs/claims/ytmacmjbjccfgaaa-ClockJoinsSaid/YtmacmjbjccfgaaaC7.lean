/- What ReadStamp reads: the plain law; part of the proof of the laws of layer 3. Conditions: each theorem's own. -/
import Derived.Test.YtmacmjbjccfgaaaC6
namespace Go.Proofs.Ytmacmjbjccfgaaa
open Go.RowKit

def u8s (l : List Int) : List UInt8 := l.map fun n => UInt8.ofNat n.toNat

theorem numB_append (l : List UInt8) (c : UInt8) (hc : 48 ≤ c.toNat ∧ c.toNat ≤ 57) : ∀ acc, numB (l ++ [c]) acc = (numB l acc).map fun n => 10 * n + ((c.toNat : Int) - 48) := by
  induction l with
  | nil => intro acc; simp [numB, hc]
  | cons a l ih =>
    intro acc
    simp only [List.cons_append, numB]
    split
    · exact ih _
    · rfl

theorem numB_digs (k : Nat) : ∀ (x : Int), 0 ≤ x → x < 10 ^ k → numB (u8s (digs x k)) 0 = some x := by
  induction k with
  | zero => intro x h0 h1; simp at h1; simp [digs, u8s, numB]; omega
  | succ k ih =>
    intro x h0 h1
    have p : (10 : Int) ^ (k + 1) = 10 ^ k * 10 := Int.pow_succ _ _
    have e : u8s (digs x (k + 1)) = u8s (digs (x / 10) k) ++ [UInt8.ofNat (48 + x % 10).toNat] := by simp [u8s, digs]
    have hc : (UInt8.ofNat (48 + x % 10).toNat).toNat = (48 + x % 10).toNat := by rw [UInt8.toNat_ofNat']; omega
    rw [e, numB_append _ _ (by rw [hc]; omega), ih (x / 10) (by omega) (by omega), hc]
    simp only [Option.map_some, Option.some.injEq]
    omega

theorem numV_some (s : ByteArray) (l : List UInt8) (n : Int) (h : s.data.toList = l) (hl : l ≠ []) (hn : numB l 0 = some n) : numV s = (n, true) := by
  rw [numV_of s l h, hn]
  cases l with
  | nil => exact absurd rfl hl
  | cons a l => rfl

theorem stamp_parts (Y M D t : Int) (s : ByteArray) (hY : 0 ≤ Y ∧ Y < 10000) (hM : 0 ≤ M ∧ M < 100) (hD : 0 ≤ D ∧ D < 100)
    (hs : s = strOfNums (digs Y 4 ++ (45 :: (digs M 2 ++ (45 :: (digs D 2 ++ (84 :: minText t))))))) :
    s.size = 16 ∧ (s.data.toList.getD 4 0).toNat = 45 ∧ (s.data.toList.getD 7 0).toNat = 45 ∧ (s.data.toList.getD 10 0).toNat = 84 ∧
    numV (s.extract 0 4) = (Y, true) ∧ numV (s.extract 5 7) = (M, true) ∧ numV (s.extract 8 10) = (D, true) ∧ s.extract 11 16 = strOfNums (minText t) := by
  have hl : s.data.toList = u8s (digs Y 4) ++ (45 :: (u8s (digs M 2) ++ (45 :: (u8s (digs D 2) ++ (84 :: u8s (minText t)))))) := by
    rw [hs, strOfNums_data]
    simp only [u8s, List.map_append, List.map_cons]
    rfl
  have l4 : (u8s (digs Y 4)).length = 4 := by simp [u8s, digs_length]
  have l2 : (u8s (digs M 2)).length = 2 := by simp [u8s, digs_length]
  have l2' : (u8s (digs D 2)).length = 2 := by simp [u8s, digs_length]
  have l5 : (u8s (minText t)).length = 5 := by simp [u8s, minText, digs_length]
  have hnY := numB_digs 4 Y hY.1 (by omega)
  have hnM := numB_digs 2 M hM.1 (by omega)
  have hnD := numB_digs 2 D hD.1 (by omega)
  obtain ⟨a0, a1, a2, a3, eY⟩ : ∃ a b c d, u8s (digs Y 4) = [a, b, c, d] := by
    match u8s (digs Y 4), l4 with
    | [a, b, c, d], _ => exact ⟨a, b, c, d, rfl⟩
  obtain ⟨b0, b1, eM⟩ : ∃ a b, u8s (digs M 2) = [a, b] := by
    match u8s (digs M 2), l2 with
    | [a, b], _ => exact ⟨a, b, rfl⟩
  obtain ⟨c0, c1, eD⟩ : ∃ a b, u8s (digs D 2) = [a, b] := by
    match u8s (digs D 2), l2' with
    | [a, b], _ => exact ⟨a, b, rfl⟩
  obtain ⟨d0, d1, d2, d3, d4, et⟩ := list5 (u8s (minText t)) l5
  rw [eY] at hl hnY
  rw [eM] at hl hnM
  rw [eD] at hl hnD
  rw [et] at hl
  simp only [List.cons_append, List.nil_append] at hl
  refine ⟨?_, by rw [hl]; rfl, by rw [hl]; rfl, by rw [hl]; rfl, numV_some _ _ _ (by rw [extr, hl]; rfl) (by simp) hnY, numV_some _ _ _ (by rw [extr, hl]; rfl) (by simp) hnM, numV_some _ _ _ (by rw [extr, hl]; rfl) (by simp) hnD, ?_⟩
  · have : s.data.toList.length = 16 := by rw [hl]; rfl
    simpa using this
  · apply bytes_of
    rw [extr, hl]
    exact et.symm

/-- Digits are told back by their number. -/
theorem digs_of_numB (l : List UInt8) : ∀ n, numB l 0 = some n → l = u8s (digs n l.length) ∧ 0 ≤ n := by
  induction hlen : l.length generalizing l with
  | zero =>
    intro n h
    have : l = [] := List.length_eq_zero_iff.1 hlen
    subst this
    simp [numB] at h
    subst h
    exact ⟨rfl, by omega⟩
  | succ k ih =>
    intro n h
    obtain ⟨l', c, rfl⟩ : ∃ l' c, l = l' ++ [c] := by
      have hne : l ≠ [] := by intro e; subst e; simp at hlen
      exact ⟨l.dropLast, l.getLast hne, (List.dropLast_concat_getLast hne).symm⟩
    have hk : l'.length = k := by simpa using hlen
    by_cases hc : 48 ≤ c.toNat ∧ c.toNat ≤ 57
    · rw [numB_append l' c hc] at h
      cases hn : numB l' 0 with
      | none => rw [hn] at h; simp at h
      | some m =>
        rw [hn] at h
        simp only [Option.map_some, Option.some.injEq] at h
        have := ih l' hk m hn
        refine ⟨?_, by omega⟩
        have e1 : n / 10 = m := by omega
        have e2 : 48 + n % 10 = c.toNat := by omega
        rw [digs, e1, e2]
        simp only [u8s, List.map_append, List.map_cons, List.map_nil]
        have h3 := this.1
        unfold u8s at h3
        rw [← h3]
        simp
    · exfalso
      have : ∀ acc, numB (l' ++ [c]) acc = none := by
        clear h ih hlen hk
        induction l' with
        | nil => intro acc; simp [numB, hc]
        | cons a l' ih2 =>
          intro acc
          simp only [List.cons_append, numB]
          split
          · exact ih2 _
          · rfl
      rw [this] at h
      simp at h

theorem rsF_true (s : ByteArray) (n : Int) (h : rsF s = (n, true)) : 0 ≤ n ∧ n ≤ 158310720 ∧ s = strOfNums (stampText n) := by
  unfold rsF at h
  split at h
  · rename_i hc
    obtain ⟨h16, h4, h7, h10, o1, o2, o3, o4, hv, hlast⟩ := hc
    have e4 : rmF (s.extract 11 16) = ((rmF (s.extract 11 16)).1, true) := by rw [← o4]
    have ht := rmF_true _ _ e4
    have val : ∀ i j, (numV (s.extract i j)).2 = true → (s.extract i j).data.toList = u8s (digs (numV (s.extract i j)).1 (s.extract i j).data.toList.length) := by
      intro i j ho
      unfold numV at *
      cases hb : numB (s.extract i j).data.toList 0 with
      | none => rw [hb] at ho; simp at ho
      | some m => simp only []; exact (digs_of_numB _ m hb).1
    have v1 := val 0 4 o1
    have v2 := val 5 7 o2
    have v3 := val 8 10 o3
    generalize (numV (s.extract 0 4)).1 = y at *
    generalize (numV (s.extract 5 7)).1 = m at *
    generalize (numV (s.extract 8 10)).1 = d at *
    generalize (rmF (s.extract 11 16)).1 = t at *
    have hm := valid_month y m d hv
    have hb := numD_bd y m d hv hm
    have hd := date_of_num y m d hv hm
    simp only [Prod.mk.injEq, and_true] at h
    have hday : sDay n = numD y m d ∧ sMin n = t := by
      unfold sDay sMin
      by_cases h1440 : t = 1440
      · have : numD y m d = 109937 := by
          have : ¬ numD y m d < 109937 := fun hh => hlast ⟨h1440, hh⟩
          omega
        rw [if_pos (by omega), if_pos (by omega)]; omega
      · rw [if_neg (by omega), if_neg (by omega)]; omega
    refine ⟨by omega, by omega, ?_⟩
    apply bytes_of
    unfold stampText
    rw [hday.1, hday.2, hd.1, hd.2.1, hd.2.2]
    have hl : s.data.toList.length = 16 := by simpa using h16
    rw [extr] at v1 v2 v3
    have hx : (s.extract 11 16).data.toList = (strOfNums (minText t)).data.toList := congrArg (fun b : ByteArray => b.data.toList) ht.2.2
    rw [extr, strOfNums_data] at hx
    generalize s.data.toList = l at *
    match l, hl with
    | [x0, x1, x2, x3, x4, x5, x6, x7, x8, x9, xa, xb, xc, xd, xe, xf], _ =>
      simp only [List.drop_zero, List.take_succ_cons, List.take_zero, List.drop_succ_cons, List.length_cons, List.length_nil, Nat.sub_zero, Nat.reduceSub, Nat.reduceAdd] at v1 v2 v3 hx
      simp only [List.getD_cons_succ, List.getD_cons_zero] at h4 h7 h10
      simp only [List.map_append, List.map_cons]
      unfold u8s at v1 v2 v3
      rw [← v1, ← v2, ← v3, ← hx, u8_int x4 45 (by omega), u8_int x7 45 (by omega), u8_int xa 84 (by omega)]
      rfl
  · simp at h

theorem stamp_bd (n : Int) (h0 : 0 ≤ n) (h1 : n ≤ 158310720) : 0 ≤ sDay n ∧ sDay n < 109938 ∧ 0 ≤ sMin n ∧ sMin n ≤ 1440 ∧ n = 1440 * sDay n + sMin n ∧ (sMin n = 1440 → sDay n = 109937) := by
  unfold sDay sMin; split <;> omega

theorem rsF_text (n : Int) (h0 : 0 ≤ n) (h1 : n ≤ 158310720) : rsF (strOfNums (stampText n)) = (n, true) := by
  have sb := stamp_bd n h0 h1
  have db := date_bd _ sb.1 sb.2.1
  have dv := date_valid _ sb.1 sb.2.1
  obtain ⟨p1, p2, p3, p4, p5, p6, p7, p8⟩ := stamp_parts (dateY (sDay n)) (dateM (sDay n)) (dD (sDay n)) (sMin n) _ (by omega) (by omega) (by omega) rfl
  have hm := rmF_text (sMin n) sb.2.2.1 sb.2.2.2.1
  unfold rsF
  unfold stampText
  rw [p5, p6, p7, p8, hm, if_pos ⟨p1, p2, p3, p4, rfl, rfl, rfl, rfl, dv.1, by rw [dv.2.1]; omega⟩, dv.2.1]
  simp only [Prod.mk.injEq, and_true]
  omega

/-- What the document's ReadStamp answers. -/
def RefStamp (s : ByteArray) (r : Int) : Prop := (0 ≤ r ∧ r ≤ 158310720 ∧ s = strOfNums (stampText r)) ∨ (r = -1 ∧ ∀ n, 0 ≤ n → n ≤ 158310720 → s ≠ strOfNums (stampText n))

theorem rsF_ref (s : ByteArray) (r : Int) (h : RefStamp s r) : rsF s = if 0 ≤ r then (r, true) else (0, false) := by
  rcases h with ⟨h0, h1, rfl⟩ | ⟨rfl, h⟩
  · rw [if_pos h0]; exact rsF_text r h0 h1
  · rw [if_neg (by omega)]
    cases hr : rsF s with
    | mk n b =>
      cases b with
      | true => have := rsF_true s n hr; exact absurd this.2.2 (h n this.1 this.2.1)
      | false =>
        unfold rsF at hr
        split at hr
        · simp at hr
        · exact hr.symm

theorem refStamp_ex (s : ByteArray) : ∃ r, RefStamp s r := by
  by_cases h : ∃ n, 0 ≤ n ∧ n ≤ 158310720 ∧ s = strOfNums (stampText n)
  · obtain ⟨n, hn⟩ := h; exact ⟨n, .inl hn⟩
  · exact ⟨-1, .inr ⟨rfl, fun n h0 h1 e => h ⟨n, h0, h1, e⟩⟩⟩

theorem stampText_inj (a b : Int) (ha : 0 ≤ a ∧ a ≤ 158310720) (hb : 0 ≤ b ∧ b ≤ 158310720) (h : strOfNums (stampText a) = strOfNums (stampText b)) : a = b := by
  have h1 := rsF_text a ha.1 ha.2
  have h2 := rsF_text b hb.1 hb.2
  rw [h, h2] at h1
  simpa using h1.symm
end Go.Proofs.Ytmacmjbjccfgaaa
