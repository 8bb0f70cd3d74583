/- buildOnce and NewReplacer at the two signs. -/
import Derived.Test.YtcleicjgeflbnaaGreatDoorS2
import Derived.OwnWalk
import Derived.Laws.MakeOwn
import Derived.Deep.OwnRows
namespace Go.Proofs.YtcleicjgeflbnaaGreatDoor
open Go.RowKit
set_option linter.all false

/-- A replacer that is not yet built: its cells. -/
structure RP (b g c : Nat) (W : World) : Prop where
  q0 : W.cell? ⟨b, 0, none⟩ = some (.int .u32 0)
  q1 : W.cell? ⟨b, 1, none⟩ = some (.int .i32 0)
  q3 : W.cell? ⟨b, 3, none⟩ = some .nilIface
  q4 : W.cell? ⟨b, 4, none⟩ = some (.slice (some ⟨g, 0, none⟩) 4 c)
  fr : ∀ j, W.frozen? ⟨b, j, none⟩ = false
  c0 : W.cell? ⟨g, 0, none⟩ = some (.string ⟨#[45]⟩)
  c1 : W.cell? ⟨g, 1, none⟩ = some (.string ⟨#[]⟩)
  c2 : W.cell? ⟨g, 2, none⟩ = some (.string ⟨#[58]⟩)
  c3 : W.cell? ⟨g, 3, none⟩ = some (.string ⟨#[]⟩)

abbrev BSdone (n0 : Nat) (W : World) : Prop := ∃ (k1 k2 : Nat) (a1 a2 : Addr), BS n0 W (.slice (some a1) 0 k1) (.slice (some a2) 0 k2) (.slice (some ⟨n0, 0, none⟩) 2 2) (.string ⟨#[58]⟩) (.string ⟨#[45]⟩)

set_option maxRecDepth 100000 in
set_option maxHeartbeats 2000000 in
theorem buildOnce_any (b g c : Nat) (w : World) (v3 : Value) (q3 : w.cell? ⟨b, 3, none⟩ = some v3) (q4 : w.cell? ⟨b, 4, none⟩ = some (.slice (some ⟨g, 0, none⟩) 4 c)) (fr : ∀ j, w.frozen? ⟨b, j, none⟩ = false)
    (c0 : w.cell? ⟨g, 0, none⟩ = some (.string ⟨#[45]⟩)) (c1 : w.cell? ⟨g, 1, none⟩ = some (.string ⟨#[]⟩)) (c2 : w.cell? ⟨g, 2, none⟩ = some (.string ⟨#[58]⟩)) (c3 : w.cell? ⟨g, 3, none⟩ = some (.string ⟨#[]⟩)) :
    Calls Tryz.prog 83 #[.pointer (some ⟨b, 0, none⟩)] w fun e w2 => e = .returned (.tuple #[]) ∧ ∃ w1, BSdone w.heap.size w1 ∧ Below w.heap.size w w1 ∧ w2 = (w1.setCell ⟨b, 3, none⟩ (.iface 186 (.pointer (some ⟨w.heap.size + 1, 0, none⟩)))).setCell ⟨b, 4, none⟩ (.slice none 0 0) := by
  have hbz : b < w.heap.size := World.block_lt_of_cell? w _ q4
  have H := Lib.hid (build_any b g c w q4 c0 c1 c2 c3)
  have Q := Lib.hid (And.intro q3 (And.intro q4 fr))
  clear c0 c1 c2 c3 q3 q4 fr
  go_enter Tryz.func83, Tryz.ntmps83
  go_wp2_with (go_at_call 107; ((with_reducible refine (H.out).mono ?_); rintro e w1 ⟨hbs, rfl, hb⟩
                                have HX := Lib.hid (And.intro hbs hb)
                                have p3 := (hb.cell (p := ⟨b, 3, none⟩) hbz).trans Q.out.1
                                have p4 := (hb.cell (p := ⟨b, 4, none⟩) hbz).trans Q.out.2.1
                                have pf : ∀ j, w1.frozen? ⟨b, j, none⟩ = false := fun j => (hb.frozen (p := ⟨b, j, none⟩) hbz).trans (Q.out.2.2 j)
                                clear hbs hb))
  go_end0
  exact ⟨rfl, _, HX.out.1, HX.out.2, rfl⟩

theorem info9 : (Tryz.prog.info? 9).map (fun i => (i.zero, i.size, i.bytes)) = some (some (.string ⟨#[]⟩), 1, 16) := by kernel_rfl

set_option maxRecDepth 100000 in
set_option maxHeartbeats 2000000 in
theorem newReplacer_any (g0 : Nat) (w : World) (c0 : w.cell? ⟨g0, 0, none⟩ = some (.string ⟨#[45]⟩)) (c1 : w.cell? ⟨g0, 1, none⟩ = some (.string ⟨#[]⟩)) (c2 : w.cell? ⟨g0, 2, none⟩ = some (.string ⟨#[58]⟩)) (c3 : w.cell? ⟨g0, 3, none⟩ = some (.string ⟨#[]⟩)) :
    Calls Tryz.prog 60 #[.slice (some ⟨g0, 0, none⟩) 4 4] w fun e w' => ∃ b g c, RP b g c w' ∧ w.heap.size ≤ b ∧ e = .returned (.pointer (some ⟨b, 0, none⟩)) ∧ Below w.heap.size w w' := by
  obtain ⟨i0, hi, hz0, hz1, hz2⟩ := info_parts info9
  have C := Lib.hid (And.intro c0 (And.intro c1 (And.intro c2 c3)))
  clear c0 c1 c2 c3
  have hrem : (4 : Int).tmod 2 = 0 := by decide
  go_enter Tryz.func60, Tryz.ntmps60
  go_wp2_with (at_builtin; refine wpList_append_own w rfl (.const (.slice none 0 0)) (.tmp 8) 49 rfl w.heap.size 9 i0 (.string ⟨#[]⟩) 1 16 Tryz.underlying49 hi hz0 hz1 hz2 rfl (by decide) (.slice none 0 0) 0 [] rfl (World.ownsRow_nil _ _ _ _) ⟨g0, 0, none⟩ 4 4 [.string ⟨#[45]⟩, .string ⟨#[]⟩, .string ⟨#[58]⟩, .string ⟨#[]⟩] rfl rfl ?c1 ?c2 ?c3 ?c4 ?c5 ?_)
  case c1 =>
    intro j u hj
    match j, hj with
    | 0, hj => simp at hj; subst hj; simpa [Addr.add] using C.out.1
    | 1, hj => simp at hj; subst hj; simpa [Addr.add] using C.out.2.1
    | 2, hj => simp at hj; subst hj; simpa [Addr.add] using C.out.2.2.1
    | 3, hj => simp at hj; subst hj; simpa [Addr.add] using C.out.2.2.2
    | (_ + 4), hj => simp at hj
  case c2 => intro u hu; simp at hu; rcases hu with rfl | rfl | rfl | rfl <;> rfl
  case c3 => unfold maxLen; omega
  case c4 => omega
  case c5 => simp
  intro v' w2 hown hgrow hx
  have hb2 : Below w.heap.size w w2 := (Below.refl _ _).grown hgrow (by omega) (fun k hk => by simp [Value.ownBlock] at hk)
  obtain ⟨hl, h0 | ⟨g, cap, cur, rfl, hg1, hg2, hg3, hg4, hg5, hg6⟩⟩ := hown
  · exact absurd h0.1 hx
  have hcur : ∀ j, j < 4 → cur[j]? = [Value.string ⟨#[45]⟩, .string ⟨#[]⟩, .string ⟨#[58]⟩, .string ⟨#[]⟩][j]? := fun j hj => by
    rw [← hg6, List.getElem?_take_of_lt (by omega), Array.getElem?_toList]
  have g0' : w2.cell? ⟨g, 0, none⟩ = some (.string ⟨#[45]⟩) := by rw [cell_of_row _ _ _ _ _ _ hg2]; exact hcur 0 (by omega)
  have g1' : w2.cell? ⟨g, 1, none⟩ = some (.string ⟨#[]⟩) := by rw [cell_of_row _ _ _ _ _ _ hg2]; exact hcur 1 (by omega)
  have g2' : w2.cell? ⟨g, 2, none⟩ = some (.string ⟨#[58]⟩) := by rw [cell_of_row _ _ _ _ _ _ hg2]; exact hcur 2 (by omega)
  have g3' : w2.cell? ⟨g, 3, none⟩ = some (.string ⟨#[]⟩) := by rw [cell_of_row _ _ _ _ _ _ hg2]; exact hcur 3 (by omega)
  have HG := Lib.hid (And.intro g0' (And.intro g1' (And.intro g2' (And.intro g3' hb2))))
  clear g0' g1' g2' g3' hb2 hcur hg2 hg6 hg5 hgrow hx hl
  go_wp2_with fail
  go_ret
  have hgz : g < w2.heap.size := World.block_lt_of_cell? w2 _ HG.out.1
  refine ⟨w2.heap.size, g, cap, ⟨?_, ?_, ?_, ?_, fun j => ?_, ?_, ?_, ?_, ?_⟩, HG.out.2.2.2.2.size, rfl, belowA _ HG.out.2.2.2.2⟩
  · rw [World.cell?_alloc_at _ _ _ _ rfl]; rfl
  · rw [World.cell?_alloc_at _ _ _ _ rfl]; rfl
  · rw [World.cell?_alloc_at _ _ _ _ rfl]; rfl
  · rw [World.cell?_alloc_at _ _ _ _ rfl]; rfl
  · simp
  · exact (World.cell?_alloc_lt _ _ _ hgz).trans HG.out.1
  · exact (World.cell?_alloc_lt _ _ _ hgz).trans HG.out.2.1
  · exact (World.cell?_alloc_lt _ _ _ hgz).trans HG.out.2.2.1
  · exact (World.cell?_alloc_lt _ _ _ hgz).trans HG.out.2.2.2.1
end Go.Proofs.YtcleicjgeflbnaaGreatDoor
