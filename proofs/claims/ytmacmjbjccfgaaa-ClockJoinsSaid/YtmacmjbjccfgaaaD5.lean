/- The walks of the document's L and Label; part of the proof of the laws of layer 3. Conditions: each theorem's own. -/
import Derived.Test.YtmacmjbjccfgaaaD4
import Derived.Outline
namespace Go.Proofs.Ytmacmjbjccfgaaa
open Go.RowKit

theorem info3 : (Try.prog.info? 3).map (fun i => (i.zero, i.size, i.bytes)) = some (some (.int .i64 0), 1, 8) := by kernel_rfl

set_option maxHeartbeats 2000000 in
theorem L_any (s : ByteArray) (hs : s.size ≤ 1000000) (w : World) :
    Calls Try.prog 17 #[.string s] w fun e w' => ∃ v, e = .returned v ∧ w'.ownsRow w.heap.size 3 1 v (LL s).length ((LL s).map (Value.int .i64)) ∧ Below w.heap.size w w' := by
  obtain ⟨i0, hi, hz0, hz1, hz2⟩ := info_parts info3
  go_enter Try.func17, Try.ntmps17
  go_wp2
  go_loopw [3, 4] (fun v i wr => ∃ (pos b : Nat) (pre : List Int), i = .int .i64 pos ∧ LL s = pre ++ Lf s b pos ∧ s.size ≤ pos + b ∧ pos ≤ s.size ∧ pre.length ≤ pos ∧ wr.ownsRow w.heap.size 3 1 v pre.length (pre.map (Value.int .i64)) ∧ Below w.heap.size w wr)
    (fun _ i _ => s.size - (intOf i).toNat)
  case atStart => exact ⟨0, s.size, [], rfl, rfl, by omega, by omega, Nat.le_refl _, World.ownsRow_made w #[] 0 (Nat.le_refl _) (by decide) rfl, (Below.refl _ _).alloc (Nat.le_refl _) _⟩
  case round =>
    obtain ⟨pos, b, pre, rfl, hc, hb, hps, hpl, hown, hB⟩ := hrel
    by_cases hp : pos < s.size
    · have hwd := width_pos s pos hp
      have hwle : pos + (Utf8.decode s pos).2 ≤ s.size := by
        by_cases h1 : (Utf8.decode s pos).2 = 1
        · omega
        · exact (decode_wide s pos hp (by omega)).1
      obtain ⟨b', rfl⟩ : ∃ b', b = b' + 1 := ⟨b - 1, by omega⟩
      rw [Lf_cons s b' pos hp] at hc
      have D := Lib.hid (fun w => one_any (s.extract pos s.size) (by simp; omega) (by simp; omega) w)
      rw [oneF_suffix s pos hp, oneF_width s pos hp] at D
      obtain ⟨c, hcc⟩ : ∃ c, c = (oneF s pos).2 := ⟨_, rfl⟩
      rw [← hcc] at D hc
      obtain ⟨wd, hwdd⟩ : ∃ c, c = (Utf8.decode s pos).2 := ⟨_, rfl⟩
      rw [← hwdd] at D hc hwd hwle
      have Hc := Lib.hid hc
      clear hc hcc hwdd
      go_wp2_with fail
      (with_reducible refine (D.out _).mono ?_)
      rintro e w1 ⟨rfl, rfl⟩
      go_wp2_with (at_builtin; refine wpList_append_own (wr.alloc (.cells #[.int .i64 c] 3)) rfl (.tmp 19) (.tmp 21) 33 rfl w.heap.size 3 i0 (.int .i64 0) 1 8 Try.underlying33 hi hz0 hz1 hz2 rfl (by decide) u3 pre.length (pre.map (Value.int .i64)) rfl (hown.alloc _) ⟨wr.heap.size, 0, none⟩ 1 1 [.int .i64 c] rfl rfl ?c1 ?c2 ?c3 ?c4 ?c5 ?_)
      case c1 =>
        intro j u hj
        match j, hj with
        | 0, hj => simp at hj; subst hj; simp [Addr.add]
      case c2 => intro u hu; simp at hu; subst hu; rfl
      case c3 => unfold maxLen; omega
      case c4 => omega
      case c5 => have := hB.size; simp; omega
      intro v' w2 hown' hgrow _
      have hB2 : Below w.heap.size w w2 := (hB.alloc hB.size _).grown hgrow (by have := hB.size; simp; omega) (fun k hk => (hown.lt k hk).1)
      have ho2 : w2.ownsRow w.heap.size 3 1 v' (pre ++ [c]).length ((pre ++ [c]).map (Value.int .i64)) := by
        rw [List.map_append, List.length_append]; exact hown'
      clear hown' hgrow hown
      go_wp2
      go_roundw
      case rel => exact ⟨pos + wd, b', pre ++ [c], by go_num, by rw [Hc.out]; simp, by omega, hwle, by rw [List.length_append]; simp; omega, ho2, hB2⟩
      case measure => simp [intOf]; omega
    · rw [Lf_end s b pos hp, List.append_nil] at hc
      have Hc := Lib.hid hc
      clear hc
      go_wp2
      go_ret
      exact ⟨_, rfl, by rw [Hc.out]; exact hown, hB⟩
end Go.Proofs.Ytmacmjbjccfgaaa
