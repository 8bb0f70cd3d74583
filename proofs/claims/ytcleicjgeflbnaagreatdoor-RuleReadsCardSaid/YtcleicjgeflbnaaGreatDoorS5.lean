/- (*Replacer).Replace, and rule.short: a stamp without signs. Condition: the stamp is one. -/
import Derived.Test.YtcleicjgeflbnaaGreatDoorS4
namespace Go.Proofs.YtcleicjgeflbnaaGreatDoor
open Go.RowKit
set_option linter.all false

theorem BS.other {n0 : Nat} {W : World} {a b c d e : Value} (h : BS n0 W a b c d e) (x : Addr) (v : Value) (hx : x.block < n0) : BS n0 (W.setCell x v) a b c d e :=
  have o : ∀ k j, n0 ≤ k → (W.setCell x v).cell? ⟨k, j, none⟩ = W.cell? ⟨k, j, none⟩ := fun k j hk => World.cell?_setCell_other _ _ _ _ (fun e => by rw [e] at hx; simp only at hx; omega)
  ⟨by rw [setCell_size]; exact h.sz, fun j hj => (o _ _ (by omega)).trans (h.rep j hj), (o _ _ (by omega)).trans h.row, fun j => by rw [World.frozen?_setCell]; exact h.fr j, (o _ _ (Nat.le_refl _)).trans h.r0, (o _ _ (Nat.le_refl _)).trans h.r1, fun j => by rw [World.frozen?_setCell]; exact h.fr0 j⟩
theorem BS.drew {n0 : Nat} {W : World} {a b c d e : Value} (h : BS n0 W a b c d e) : BS n0 W.drew a b c d e := ⟨h.sz, h.rep, h.row, h.fr, h.r0, h.r1, h.fr0⟩
theorem nil_ahead (a : Addr) (w : World) : (nilAhead 351 186 (.pointer (some a)) "Replace").run Tryz.prog w = .ok (some false) w := by kernel_rfl
theorem method_rep (a : Addr) (w : World) : (method 351 186 (.pointer (some a)) "Replace").run Tryz.prog w = .ok (190, .pointer (some a)) w := by kernel_rfl

set_option maxRecDepth 100000 in
set_option maxHeartbeats 4000000 in
theorem replace_any (b g c : Nat) (s : ByteArray) (w : World) (h : RP b g c w) (hs : s.size = 16) (h58 : Lib.countByte s.data.toList 58 = 1) (h45 : Lib.countByte s.data.toList 45 = 2) (hl : (fltT s.data.toList).length = 13) :
    Calls Tryz.prog 61 #[.pointer (some ⟨b, 0, none⟩), .string s] w fun e w' => e = .returned (.string (toB (fltT s.data.toList))) ∧ ∀ w0 : World, w0.heap.size ≤ b → Below w0.heap.size w0 w → Below w0.heap.size w0 w' := by
  have hbz : b < w.heap.size := World.block_lt_of_cell? w _ h.q0
  have hgz : g < w.heap.size := World.block_lt_of_cell? w _ h.c0
  have hgb : g ≠ b := fun e => by have h1 := h.c0; have h2 := h.q0; rw [e, h2] at h1; simp at h1
  have o := fun (_j : Nat) (x : Addr) (hx : x ≠ ⟨b, 1, none⟩) => World.cell?_setCell_other w ⟨b, 1, none⟩ x (.int .i32 1) (fun e => hx e.symm)
  have D := Lib.hid (do_first b w (fun w2 => ∃ w1, BSdone w.heap.size w1 ∧ Below w.heap.size (w.setCell ⟨b, 1, none⟩ (.int .i32 1)) w1 ∧ w2 = (w1.setCell ⟨b, 3, none⟩ (.iface 186 (.pointer (some ⟨w.heap.size + 1, 0, none⟩)))).setCell ⟨b, 4, none⟩ (.slice none 0 0)) h.q0 h.q1 (h.fr 1)
    (by
      have hb := buildOnce_any b g c (w.setCell ⟨b, 1, none⟩ (.int .i32 1)) .nilIface ((o 0 _ (by simp)).trans h.q3) ((o 0 _ (by simp)).trans h.q4) (fun j => by rw [World.frozen?_setCell]; exact h.fr j)
        ((o 0 _ (by simp [hgb])).trans h.c0) ((o 0 _ (by simp [hgb])).trans h.c1) ((o 0 _ (by simp [hgb])).trans h.c2) ((o 0 _ (by simp [hgb])).trans h.c3)
      rw [setCell_size] at hb
      exact hb)
    (by
      rintro w2 ⟨w1, hbs, hb, rfl⟩
      have p0 : w1.cell? ⟨b, 0, none⟩ = some (.int .u32 0) := (hb.cell hbz).trans ((o 0 _ (by simp)).trans h.q0)
      have p1 : w1.cell? ⟨b, 1, none⟩ = some (.int .i32 1) := (hb.cell hbz).trans (World.cell?_setCell_same w _ _ h.q1)
      have pf : ∀ j, w1.frozen? ⟨b, j, none⟩ = false := fun j => (hb.frozen (p := ⟨b, j, none⟩) hbz).trans (by rw [World.frozen?_setCell]; exact h.fr j)
      refine ⟨?_, ?_, ?_, ?_⟩
      · rw [World.cell?_setCell_other _ _ _ _ (by simp), World.cell?_setCell_other _ _ _ _ (by simp)]; exact p0
      · rw [World.cell?_setCell_other _ _ _ _ (by simp), World.cell?_setCell_other _ _ _ _ (by simp)]; exact p1
      · rw [World.frozen?_setCell, World.frozen?_setCell]; exact pf 0
      · rw [World.frozen?_setCell, World.frozen?_setCell]; exact pf 1))
  have HH := Lib.hid h
  have HR := Lib.hid (fun (W : World) (hW : BSdone w.heap.size W) => bsrReplace_any w.heap.size s W hW hs h58 h45 hl)
  have hmf : ∀ (fn : Fn) (first cap : Array Value) (w : World), (Instr.makeFunc fn first cap).run Tryz.prog w = .ok (.func fn first cap) w := fun _ _ _ _ => rfl
  have q0 := h.q0
  have q3 := h.q3
  have hn := nil_ahead
  have hm := method_rep
  clear h hs h58 h45 hl o hgb
  go_enter Tryz.func61, Tryz.ntmps61
  go_wp2_with (first
    | (go_at_call 82; ((with_reducible refine (D.out).mono ?_); rintro e w' ⟨rfl, w2, ⟨w1, hbs, hb, rfl⟩, rfl⟩
                       have hbs' : BSdone w.heap.size ((((w1.setCell ⟨b, 3, none⟩ (.iface 186 (.pointer (some ⟨w.heap.size + 1, 0, none⟩)))).setCell ⟨b, 4, none⟩ (.slice none 0 0)).drew.setCell ⟨b, 0, none⟩ (.int .u32 1)).setCell ⟨b, 1, none⟩ (.int .i32 0)) := by
                         obtain ⟨x1, x2, x3, x4, hx⟩ := hbs
                         exact ⟨x1, x2, x3, x4, (((hx.other ⟨b, 3, none⟩ _ hbz).other ⟨b, 4, none⟩ _ hbz).drew.other ⟨b, 0, none⟩ _ hbz).other ⟨b, 1, none⟩ _ hbz⟩
                       have c3 : ((((w1.setCell ⟨b, 3, none⟩ (.iface 186 (.pointer (some ⟨w.heap.size + 1, 0, none⟩)))).setCell ⟨b, 4, none⟩ (.slice none 0 0)).drew.setCell ⟨b, 0, none⟩ (.int .u32 1)).setCell ⟨b, 1, none⟩ (.int .i32 0)).cell? ⟨b, 3, none⟩ = some (.iface 186 (.pointer (some ⟨w.heap.size + 1, 0, none⟩))) := by
                         rw [World.cell?_setCell_other _ _ _ _ (by simp), World.cell?_setCell_other _ _ _ _ (by simp), World.cell?_drew, World.cell?_setCell_other _ _ _ _ (by simp)]
                         exact World.cell?_setCell_same _ _ _ ((hb.cell hbz).trans ((World.cell?_setCell_other w ⟨b, 1, none⟩ ⟨b, 3, none⟩ _ (by simp)).trans q3))
                       have hbel : ∀ w0 : World, w0.heap.size ≤ b → Below w0.heap.size w0 w → Below w0.heap.size w0 ((((w1.setCell ⟨b, 3, none⟩ (.iface 186 (.pointer (some ⟨w.heap.size + 1, 0, none⟩)))).setCell ⟨b, 4, none⟩ (.slice none 0 0)).drew.setCell ⟨b, 0, none⟩ (.int .u32 1)).setCell ⟨b, 1, none⟩ (.int .i32 0)) := fun w0 h0 h1 =>
                         belowS _ _ (belowS _ _ ((belowS _ _ (belowS _ _ ((belowS ⟨b, 1, none⟩ (.int .i32 1) h1 h0).trans (hb.mono h1.size)) h0) h0).drew) h0) h0
                       generalize ((((w1.setCell ⟨b, 3, none⟩ (.iface 186 (.pointer (some ⟨w.heap.size + 1, 0, none⟩)))).setCell ⟨b, 4, none⟩ (.slice none 0 0)).drew.setCell ⟨b, 0, none⟩ (.int .u32 1)).setCell ⟨b, 1, none⟩ (.int .i32 0)) = W5 at hbs' c3 hbel ⊢
                       have R1 := Lib.hid (HR.out W5 hbs')
                       have BB := Lib.hid hbel
                       clear hbs hbs' hbel hb q0 q3))
    | (go_at_call 190; ((with_reducible refine (R1.out).mono ?_); rintro e w' ⟨rfl, hb6⟩
                        have H6 := Lib.hid hb6
                        clear hb6)))

  go_ret
  exact ⟨rfl, fun w0 h0 h1 => (BB.out w0 h0 h1).trans (H6.out.mono (BB.out w0 h0 h1).size)⟩

def u8l (l : List Int) : List UInt8 := l.map fun n => UInt8.ofNat n.toNat
theorem str_u8l (l : List Int) : strOfNums l = toB (u8l l) := by
  apply ByteArray.ext
  apply Array.ext'
  rw [strOfNums_data]; rfl
/-- A stamp's text without its signs. -/
def shortT (n : Int) : List UInt8 := fltT (u8l (stampText n))
theorem digs_dig (k : Nat) : ∀ (n : Int), ∀ c ∈ digs n k, 48 ≤ c ∧ c ≤ 57 := by
  induction k with
  | zero => intro n c h; simp [digs] at h
  | succ k ih =>
    intro n c h
    rw [digs, List.mem_append] at h
    rcases h with h | h
    · exact ih _ c h
    · simp at h; omega
theorem u8_dig (k : Nat) (n : Int) : ∀ c ∈ u8l (digs n k), 48 ≤ c.toNat ∧ c.toNat ≤ 57 := by
  intro c h
  simp only [u8l, List.mem_map] at h
  obtain ⟨x, hx, rfl⟩ := h
  have := digs_dig k n x hx
  rw [UInt8.toNat_ofNat']
  omega
theorem flt_u8 (k : Nat) (n : Int) : fltT (u8l (digs n k)) = u8l (digs n k) := by
  unfold fltT
  rw [List.filter_eq_self]
  intro c h
  have := u8_dig k n c h
  simp only [Bool.and_eq_true, bne_iff_ne]
  exact ⟨fun e => by rw [e] at this; simp at this, fun e => by rw [e] at this; simp at this⟩
theorem cnt_u8 (k : Nat) (n : Int) (x : UInt8) (hx : x = 45 ∨ x = 58) : (u8l (digs n k)).count x = 0 := by
  rw [List.count_eq_zero]
  intro h
  have := u8_dig k n x h
  rcases hx with rfl | rfl <;> simp at this
theorem u8l_length (l : List Int) : (u8l l).length = l.length := by simp [u8l]
theorem u8l_append (a b : List Int) : u8l (a ++ b) = u8l a ++ u8l b := by simp [u8l]
theorem u8l_cons (a : Int) (b : List Int) : u8l (a :: b) = UInt8.ofNat a.toNat :: u8l b := rfl
theorem flt_append (a b : List UInt8) : fltT (a ++ b) = fltT a ++ fltT b := by simp [fltT]
theorem shortT_eq (n : Int) : shortT n = u8l (digs (dateY (sDay n)) 4) ++ (u8l (digs (dateM (sDay n)) 2) ++ (u8l (digs (dD (sDay n)) 2) ++ ([84] ++ (u8l (digs (sMin n / 60) 2) ++ u8l (digs (sMin n % 60) 2))))) := by
  have a1 : ∀ l, fltT (UInt8.ofNat (45 : Int).toNat :: l) = fltT l := fun l => rfl
  have a2 : ∀ l, fltT (UInt8.ofNat (58 : Int).toNat :: l) = fltT l := fun l => rfl
  have a3 : ∀ l, fltT (UInt8.ofNat (84 : Int).toNat :: l) = [84] ++ fltT l := fun l => rfl
  unfold shortT stampText minText
  simp only [u8l_append, u8l_cons, flt_append, a1, a2, a3, flt_u8]
theorem shortT_length (n : Int) : (shortT n).length = 13 := by
  rw [shortT_eq]
  simp only [List.length_append, u8l_length, digs_length, List.length_cons, List.length_nil]
theorem stamp_cnt (n : Int) : Lib.countByte (u8l (stampText n)) 58 = 1 ∧ Lib.countByte (u8l (stampText n)) 45 = 2 ∧ (u8l (stampText n)).length = 16 := by
  have c58 := fun k n => cnt_u8 k n 58 (.inr rfl)
  have c45 := fun k n => cnt_u8 k n 45 (.inl rfl)
  unfold stampText minText Lib.countByte
  refine ⟨?_, ?_, ?_⟩
  · simp only [u8l_append, u8l_cons, List.count_append, List.count_cons, c58]; decide
  · simp only [u8l_append, u8l_cons, List.count_append, List.count_cons, c45]; decide
  · simp only [u8l_append, u8l_cons, List.length_append, u8l_length, digs_length, List.length_cons]

set_option maxRecDepth 100000 in
set_option maxHeartbeats 4000000 in
theorem short_any (n : Int) (w : World) (h0 : 0 ≤ n) (h1 : n ≤ 158310720) :
    Calls Tryz.prog 27 #[.int .i64 n] w fun e w' => e = .returned (.string (toB (shortT n))) ∧ Below w.heap.size w w' := by
  have C := Lib.hid (fun W => stamp_yes n h0 h1 W)
  obtain ⟨s1, s2, s3⟩ := stamp_cnt n
  have hS := str_u8l (stampText n)
  have R := Lib.hid (fun (b g c : Nat) (W : World) (h : RP b g c W) => replace_any b g c (strOfNums (stampText n)) W h (by rw [hS, toB_size]; exact s3) (by rw [hS]; exact s1) (by rw [hS]; exact s2) (by rw [hS]; exact shortT_length n))
  have HS := Lib.hid hS
  clear s1 s2 s3 h0 h1 hS
  go_enter Tryz.func27, Tryz.ntmps27
  go_wp2_with (first
    | (go_at_call 59; ((with_reducible refine (C.out _).mono ?_); rintro e w1 ⟨rfl, hb⟩
                       have HB := Lib.hid hb
                       have N1 := Lib.hid (newReplacer_any w1.heap.size (w1.alloc (.cells #[.string ⟨#[45]⟩, .string ⟨#[]⟩, .string ⟨#[58]⟩, .string ⟨#[]⟩] 9)) (by rw [World.cell?_alloc_at _ _ _ _ rfl]; rfl) (by rw [World.cell?_alloc_at _ _ _ _ rfl]; rfl) (by rw [World.cell?_alloc_at _ _ _ _ rfl]; rfl) (by rw [World.cell?_alloc_at _ _ _ _ rfl]; rfl))
                       clear hb))
    | (go_at_call 60; ((with_reducible refine (N1.out).mono ?_); rintro e w2 ⟨b, g, c, hrp, hbg, rfl, hb⟩
                       have H2 := Lib.hid (And.intro hbg hb)
                       have R2 := Lib.hid (R.out b g c w2 hrp)
                       clear hrp hbg hb))
    | (go_at_call 61; ((with_reducible refine (R2.out).mono ?_); rintro e w3 ⟨rfl, hb⟩
                       have H3 := Lib.hid hb
                       clear hb)))
  go_ret
  refine ⟨?_, H3.out w (Nat.le_trans (belowA _ HB.out).size H2.out.1) ((belowA _ HB.out).trans (H2.out.2.mono (belowA _ HB.out).size))⟩
  rw [HS.out]; rfl
end Go.Proofs.YtcleicjgeflbnaaGreatDoor
