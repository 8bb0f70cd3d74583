/- rule.number at any text; rule.parts$7: what the part BYDAY says. Conditions: the tables are laid, the errors of strconv lie in their boxes, the rule lies in a box. -/
import Derived.Test.YtcleicjgeflbnaaGreatDoorV9
import Derived.Deep.RegionWith
namespace Go.Proofs.YtcleicjgeflbnaaGreatDoor
open Go.RowKit Go.ChangeShapes Go.WideShapes Go.Deep
set_option linter.all false

/-- The errors of strconv lie in their variables. -/
structure Errs (w : World) : Prop where
  e6 : ∃ ev, w.cell? ⟨6, 0, none⟩ = some ev ∧ (ev = .nilIface ∨ ∃ te pe, ev = .iface te pe)
  e7 : ∃ ev, w.cell? ⟨7, 0, none⟩ = some ev ∧ (ev = .nilIface ∨ ∃ te pe, ev = .iface te pe)
theorem Errs.later {w w' : World} (h : Errs w) (hb : Below w.heap.size w w') : Errs w' := by
  obtain ⟨⟨a, a1, a2⟩, ⟨b, b1, b2⟩⟩ := h
  exact ⟨⟨a, (hb.cell (World.block_lt_of_cell? w ⟨6, 0, none⟩ a1)).trans a1, a2⟩, ⟨b, (hb.cell (World.block_lt_of_cell? w ⟨7, 0, none⟩ b1)).trans b1, b2⟩⟩
theorem own_slice {w : World} {B : Nat} {e : TypeId} {sz : Nat} {v : Value} {n : Nat} {xs : List Value} (h : w.ownsRow B e sz v n xs) : ∃ o m c, v = .slice o m c := by
  obtain ⟨_, h2 | ⟨g, cap, cur, e, _⟩⟩ := h
  · exact ⟨_, _, _, h2.1⟩
  · exact ⟨_, _, _, e⟩
def numZ (s : ByteArray) : Int := match Lib.atoiAll s.data.toList with | .ok v => v | _ => 0

set_option maxRecDepth 100000 in
set_option maxHeartbeats 4000000 in
theorem number_any (s : ByteArray) (w : World) (hs : s.size ≤ 1000000) (hE : Errs w) : Calls Tryz.prog 40 #[.string s] w fun e w' => e = .returned (.int .i64 (numZ s)) ∧ Below w.heap.size w w' := by
  cases h : Lib.atoiAll s.data.toList with
  | ok v =>
    have hz : numZ s = v := by unfold numZ; rw [h]
    rw [hz]
    exact number_ok s v w hs h
  | range =>
    have hz : numZ s = 0 := by unfold numZ; rw [h]
    rw [hz]
    obtain ⟨ev, h1, h2⟩ := hE.e7
    have H1 := Lib.hid (Tryz.strconv_Atoi_range s (by omega) h ev w h1 h2)
    clear h h1 h2 hz
    generalize Lib.atoiSat s.data.toList = sat at H1
    go_enter Tryz.func40, Tryz.ntmps40
    go_wp2_with (go_at_call 69; ((with_reducible refine H1.out.mono ?_); rintro e w1 ⟨N, rfl, hN, hw, hb⟩
                                 have HW := Lib.hid hb
                                 clear hN hw hb))
    go_ret
    exact ⟨rfl, HW.out⟩
  | _ =>
    have hz : numZ s = 0 := by unfold numZ; rw [h]
    rw [hz]
    obtain ⟨ev, h1, h2⟩ := hE.e6
    have H1 := Lib.hid (Tryz.strconv_Atoi_syntax s (by omega) h ev w h1 h2)
    clear h h1 h2 hz
    go_enter Tryz.func40, Tryz.ntmps40
    go_wp2_with (go_at_call 69; ((with_reducible refine H1.out.mono ?_); rintro e w1 ⟨N, rfl, hN, hw, hb⟩
                                 have HW := Lib.hid hb
                                 clear hN hw hb))
    go_ret
    exact ⟨rfl, HW.out⟩

set_option maxRecDepth 100000 in
set_option maxHeartbeats 4000000 in
theorem takeDays (s : ByteArray) (B R : Nat) (cs : Array Value) (w : World) (hs : s.size ≤ 1000000) (hL : Laid w) (hE : Errs w) (hB : w.cell? ⟨B, 0, none⟩ = some (.pointer (some ⟨R, 0, none⟩))) (hR : w.heap[R]? = some (.cells cs 26 (0, 0))) (h9 : cs.size = 9) :
    Calls Tryz.prog 47 #[.string s, .pointer (some ⟨B, 0, none⟩)] w fun e w' => ∃ v, e = .returned (.tuple #[]) ∧ Sets R (cs.setIfInBounds 6 v) w w' ∧ w'.ownsRow (w.heap.size + 6) 36 2 v (splitB 44 s).length (dnC ((splitB 44 s).map (dayF numZ))) := by
  have hlt : R < w.heap.size := (Array.getElem?_eq_some_iff.1 hR).1
  have hBl : B < w.heap.size := World.block_lt_of_cell? w ⟨B, 0, none⟩ hB
  have HL := Lib.hid hL
  have HE := Lib.hid hE
  have HR := Lib.hid hR
  have HD := Lib.hid (fun (W : World) (hsz : W.heap.size = w.heap.size) (hb : Below w.heap.size w W) => callsIn_wide.1 (daysOf_in s hs W (HL.out.later hb) numZ (fun x W1 hx hb1 => number_any x W1 hx (HE.out.later (hb.trans (hb1.mono hb.size))))))
  have hc6 : ∃ v, w.cell? ⟨R, 6, none⟩ = some v := by
    rw [cell_of_row _ _ _ _ _ _ hR]
    exact ⟨cs[6]'(by omega), Array.getElem?_eq_getElem _⟩
  obtain ⟨v0, hc0⟩ := hc6
  have hf0 : w.frozen? ⟨R, 6, none⟩ = false := frozen_of_row _ _ _ _ _ hR
  have HB0 := Lib.hid (Below.refl w.heap.size w)
  have HC0 := Lib.hid (And.intro hc0 (And.intro hf0 hB))
  clear hL hE hR
  go_enter Tryz.func47, Tryz.ntmps47
  go_wp2_with fail
  go_region_with (go_at_call 48; ((with_reducible refine (HD.out _ ?_ ?_).mono ?_); (rfl); (first | exact HB0.out | exact HB0.out.drew); rintro e w2 ⟨v, rfl, hown, hb⟩
                                  obtain ⟨vo, vn, vc, rfl⟩ := own_slice hown
                                  have B1 := Lib.hid (show Below w.heap.size w w2 from ⟨hb.os, hb.tape, hb.output, hb.size, hb.block⟩)
                                  have OW := Lib.hid hown
                                  have hc2 : w2.cell? ⟨R, 6, none⟩ = some v0 := (B1.out.cell (p := ⟨R, 6, none⟩) hlt).trans HC0.out.1
                                  have hf2 : w2.frozen? ⟨R, 6, none⟩ = false := frozen_of_row _ _ _ _ _ ((B1.out.block R hlt).trans HR.out)
                                  have hB2 : w2.cell? ⟨B, 0, none⟩ = some (.pointer (some ⟨R, 0, none⟩)) := (B1.out.cell (p := ⟨B, 0, none⟩) hBl).trans HC0.out.2.2
                                  clear hown hb))
  all_goals
    go_wp2_with fail
    go_end0
    refine ⟨_, rfl, Sets.store B1.out HR.out 6 _, ?_⟩
    obtain ⟨h1, h2 | ⟨g, cap, cur, e2, a1, a2, a3⟩⟩ := OW.out
    · exact ⟨h1, .inl h2⟩
    · exact ⟨h1, .inr ⟨g, cap, cur, e2, a1, (Below.heap_setCell _ _ _ _ (by
        have a1' : w.heap.size + 6 ≤ g := a1
        simp only; omega)).trans a2, a3⟩⟩
end Go.Proofs.YtcleicjgeflbnaaGreatDoor
