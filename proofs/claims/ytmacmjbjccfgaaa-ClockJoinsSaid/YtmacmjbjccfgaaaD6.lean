/- The walk of the document's Label; part of the proof of the laws of layer 3. Conditions: each theorem's own. -/
import Derived.Test.YtmacmjbjccfgaaaD5
namespace Go.Proofs.Ytmacmjbjccfgaaa
open Go.RowKit

theorem oneF_ge (s : ByteArray) (pos : Nat) : -1 ≤ (oneF s pos).2 ∧ (oneF s pos).2 ≤ 2147483647 := by
  have := decode_le s pos
  unfold oneF
  split
  · simp
  · simp only []; omega

theorem Lf_ge (s : ByteArray) (b : Nat) : ∀ pos, ∀ c ∈ Lf s b pos, -1 ≤ c ∧ c ≤ 2147483647 := by
  induction b with
  | zero => intro pos c h; simp [Lf] at h
  | succ b ih =>
    intro pos c h
    unfold Lf at h
    split at h
    · rw [List.mem_cons] at h
      rcases h with rfl | h
      · exact oneF_ge s pos
      · exact ih _ c h
    · simp at h

theorem all_take (l : List Int) (k : Nat) (h : k < l.length) (ha : (l.take k).all letterB = true) (hc : letterB (l.getD k 0) = true) : (l.take (k + 1)).all letterB = true := by
  rw [List.take_succ_eq_append_getElem h, List.all_append, ha]
  simp [List.getD, List.getElem?_eq_getElem h] at hc
  simp [hc]

theorem not_all (l : List Int) (k : Nat) (h : k < l.length) (hc : letterB (l.getD k 0) = false) : l.all letterB = false := by
  simp [List.getD, List.getElem?_eq_getElem h] at hc
  rw [List.all_eq_false]
  exact ⟨l[k], List.getElem_mem h, by simp [hc]⟩

set_option maxRecDepth 100000 in
set_option maxHeartbeats 8000000 in
theorem refLabel_any (s : ByteArray) (hs : s.size ≤ 1000000) (w : World) :
    Calls Try.prog 15 #[.string s] w fun e w' => e = .returned (.bool (labB s)) ∧ Below w.heap.size w w' := by
  have hLge : ∀ c ∈ LL s, -1 ≤ c ∧ c ≤ 2147483647 := Lf_ge s s.size 0
  have hlen : (LL s).length ≤ 1000000 := Nat.le_trans (Lf_le s _ _) hs
  have D := Lib.hid (fun w => L_any s hs w)
  rw [labB_ref]
  generalize LL s = l at *
  obtain ⟨n, hn⟩ : ∃ n, n = l.length := ⟨_, rfl⟩
  rw [← hn] at D hlen
  have hR : refLab l = (!(decide (n = 0) || decide (24 < n) || decide (l.getD 0 0 = 32) || decide (lastI l = 32)) && l.all letterB) := by rw [hn]; rfl
  have hlast : lastI l = l.getD (n - 1) 0 := by rw [hn]; rfl
  go_enter Try.func15, Try.ntmps15
  go_wp2_with fail
  (with_reducible refine (D.out _).mono ?_)
  rintro e w1 ⟨v, rfl, hown, hb1⟩
  obtain ⟨hxl, hv⟩ := hown
  by_cases h0 : n = 0
  · have hF : refLab l = false := by rw [hR, h0]; rfl
    have HF := Lib.hid hF
    subst h0
    have Hn := Lib.hid hn
    clear hF hR hlast hn hLge hxl
    rcases hv with ⟨rfl, _⟩ | ⟨g, cap, cur, rfl, _⟩
    · go_wp2
      go_ret
      exact ⟨ret_b HF.out.symm, hb1⟩
    · go_wp2
      go_ret
      exact ⟨ret_b HF.out.symm, hb1⟩
  · rcases hv with ⟨_, hnil⟩ | ⟨g, cap, cur, rfl, hbg, hheap, hnc, hcm, hcs, hcells⟩
    · exact absurd hnil h0
    · by_cases h24 : 24 < n
      · have hF : refLab l = false := by rw [hR, decide_eq_true h24]; simp
        have HF := Lib.hid hF
        have d0 : ((n : Int) == 0) = false := by rw [beq_eq_false_iff_ne]; omega
        have d1 : decide ((24 : Int) < (n : Int)) = true := by simp; omega
        clear hF hR hlast hn hLge hxl hcells hcs
        go_wp2
        go_ret
        exact ⟨ret_b HF.out.symm, hb1⟩
      · have hcell : ∀ j, j < n → w1.cell? ⟨g, j, none⟩ = some (.int .i64 (l.getD j 0)) := by
          intro j hj
          rw [cell_of_row w1 g j cur 3 (0, 0) hheap]
          have h1 : cur.toList[j]? = (l.map (Value.int .i64))[j]? := by
            rw [← hcells, List.getElem?_take_of_lt (by omega)]
          rw [Array.getElem?_toList] at h1
          rw [h1]
          simp [List.getD, List.getElem?_eq_getElem (show j < l.length by omega)]
        have hg0 := hcell 0 (by omega)
        have hgl := hcell (n - 1) (by omega)
        rw [← hlast] at hgl
        have hcl := Lib.hid hcell
        have d0 : ((n : Int) == 0) = false := by rw [beq_eq_false_iff_ne]; omega
        have d1 : decide ((24 : Int) < (n : Int)) = false := by simp; omega
        have hi : ((n : Int) - 1).toNat = n - 1 := by omega
        rw [decide_eq_false h0, decide_eq_false h24] at hR
        have Hn := Lib.hid hn
        have Hl := Lib.hid hlast
        have HLge := Lib.hid hLge
        obtain ⟨x0, hx0⟩ : ∃ x, x = l.getD 0 0 := ⟨_, rfl⟩
        obtain ⟨xl, hxl'⟩ : ∃ x, x = lastI l := ⟨_, rfl⟩
        rw [← hx0] at hg0 hR
        rw [← hxl'] at hgl hR
        clear hcell hn hlast hLge hxl hcells hcs hx0 hxl' hheap hnc hcm hbg
        by_cases q0 : x0 = 32
        · have hF : refLab l = false := by rw [hR, q0]; simp
          have HF := Lib.hid hF
          subst q0
          clear hF hR
          go_wp2
          go_ret
          exact ⟨ret_b HF.out.symm, hb1⟩
        · have d2 : (x0 == 32) = false := by rw [beq_eq_false_iff_ne]; exact q0
          by_cases q1 : xl = 32
          · have hF : refLab l = false := by rw [hR, q1]; simp
            have HF := Lib.hid hF
            subst q1
            clear hF hR
            go_wp2
            go_ret
            exact ⟨ret_b HF.out.symm, hb1⟩
          · have hF : refLab l = l.all letterB := by rw [hR]; simp [q0, q1]
            have HF := Lib.hid hF
            have d3 : (xl == 32) = false := by rw [beq_eq_false_iff_ne]; exact q1
            clear hF hR
            go_wp2
            go_loop [33] (fun a => ∃ k : Nat, k ≤ n ∧ a = .int .i64 k ∧ (l.take k).all letterB = true) (fun a => n - (intOf a).toNat)
            case atStart => exact ⟨0, Nat.zero_le _, rfl, rfl⟩
            case round =>
              obtain ⟨k, hk, rfl, hal⟩ := hrel
              by_cases hlt : k < n
              · have hck := hcl.out k hlt
                have hkl : k < l.length := by have := Hn.out; omega
                have hmem : l.getD k 0 ∈ l := by simp [List.getD, List.getElem?_eq_getElem hkl]
                have hcb := HLge.out _ hmem
                have hT := all_take l k hkl hal
                have hN := not_all l k hkl
                clear hmem
                have Hal := Lib.hid hal
                have Hkl := Lib.hid hkl
                clear hal hkl
                generalize l.getD k 0 = c at *
                obtain ⟨hcb0, hcb1⟩ := hcb
                have hc : c < 32 ∨ c = 32 ∨ 33 ≤ c ∧ c ≤ 44 ∨ c = 45 ∨ 46 ≤ c ∧ c ≤ 47 ∨ 48 ≤ c ∧ c ≤ 57 ∨ 58 ≤ c ∧ c ≤ 64 ∨ 65 ≤ c ∧ c ≤ 90 ∨ 91 ≤ c ∧ c ≤ 96 ∨ 97 ≤ c ∧ c ≤ 122 ∨ 123 ≤ c ∧ c ≤ 191 ∨ 192 ≤ c ∧ c ≤ 591 ∨ 592 ≤ c := by omega
                have hl : letterB c = decide (97 ≤ c ∧ c ≤ 122 ∨ 65 ≤ c ∧ c ≤ 90 ∨ 48 ≤ c ∧ c ≤ 57 ∨ c = 32 ∨ c = 45 ∨ 192 ≤ c ∧ c ≤ 591) := rfl
                have e1 : (c == 32) = decide (c = 32) := by rw [Bool.eq_iff_iff]; simp
                have e2 : (c == 45) = decide (c = 45) := by rw [Bool.eq_iff_iff]; simp
                have HT := Lib.hid hT
                have HN := Lib.hid hN
                clear hT hN
                rcases hc with h | h | h | h | h | h | h | h | h | h | h | h | h
                all_goals
                  first | rw [decide_eq_true (by omega)] at hl | rw [decide_eq_false (by omega)] at hl
                  first | rw [decide_eq_true (by omega)] at e1 | rw [decide_eq_false (by omega)] at e1
                  first | rw [decide_eq_true (by omega)] at e2 | rw [decide_eq_false (by omega)] at e2
                  have HL := Lib.hid hl
                  first | (obtain ⟨k1, k2⟩ := h; clear hl) | (have k1 : c ≤ 45 := (by omega); have k2 : 32 ≤ c := (by omega); clear h hl) | clear hl
                  go_wp2
                  all_goals first
                    | (exfalso; rename_i hx; simp only [Bool.not_eq_false', decide_eq_true_eq] at hx; omega)
                    | (go_ret; exact ⟨ret_b (HF.out.trans (HN.out HL.out)).symm, hb1⟩)
                    | exact ⟨⟨k + 1, by omega, by go_num, HT.out HL.out⟩, by simp [intOf]; omega⟩
              · obtain rfl : k = n := by omega
                have Hal := Lib.hid hal
                clear hal
                go_wp2
                go_ret
                have hall := Hal.out
                rw [List.take_of_length_le (by have := Hn.out; omega)] at hall
                exact ⟨ret_b (HF.out.trans hall).symm, hb1⟩
end Go.Proofs.Ytmacmjbjccfgaaa
