/- The walk of the document's one: part of the proof of the laws of layer 3. Conditions: each theorem's own. -/
import Derived.Test.YtmacmjbjccfgaaaD1
namespace Go.Proofs.Ytmacmjbjccfgaaa
open Go.RowKit

theorem bInt (s : ByteArray) (i : Nat) (h : i < s.size) : ((s[i]).toNat : Int) = bAt s i := by rw [bAt_get s i h]

theorem contF_step (s : ByteArray) (k i : Nat) (c : Int) : contF s (k + 1) i c = if 128 ≤ bAt s i ∧ bAt s i ≤ 191 then contF s k (i + 1) (64 * c + bAt s i - 128) else none := rfl

def finF (many : Nat) (least : Int) : Option Int → Int × Int
  | none => (1, -1)
  | some c => if c < least ∨ c > 1114111 ∨ c ≥ 55296 ∧ c < 57344 then (1, -1) else ((many : Int) + 1, c)

theorem one_ret {s : ByteArray} {a b : Int} (h : oneF s 0 = (a, b)) : Ending.returned (.tuple #[.int .i64 a, .int .i64 b]) = Ending.returned (.tuple #[.int .i64 (oneF s 0).1, .int .i64 (oneF s 0).2]) := by rw [h]

set_option maxRecDepth 100000 in
set_option maxHeartbeats 4000000 in
theorem one_1 (s : ByteArray) (hs : s.size ≤ 140737488351232) (hp : 0 < s.size) (g1 : 192 ≤ (s[0]'hp).toNat) (g2 : (s[0]'hp).toNat < 224) (w : World) :
    Calls Try.prog 27 #[.string s] w fun e w' => e = .returned (.tuple #[.int .i64 (oneF s 0).1, .int .i64 (oneF s 0).2]) ∧ w = w' := by
  have hG : oneF s 0 = oneG s 1 (((s[0]'hp).toNat : Int) - 192) 128 := by rw [bInt s 0 hp]; exact oneF_2 s (by rw [bAt_get s 0 hp]; exact g1) (by rw [bAt_get s 0 hp]; exact g2)
  by_cases hsz : s.size < 2
  · have H : oneF s 0 = (1, -1) := by rw [hG]; unfold oneG; rw [if_pos hsz]
    have HF := Lib.hid H
    clear H hG
    go_enter Try.func27, Try.ntmps27
    go_wp2
    go_ret2
    exact ⟨one_ret HF.out, rfl⟩
  · obtain ⟨X, hX⟩ : ∃ X, X = contF s 1 1 (((s[0]'hp).toNat : Int) - 192) := ⟨_, rfl⟩
    have hG' : oneF s 0 = finF 1 128 X := by
      rw [hG]; unfold oneG; rw [if_neg hsz, ← hX]; cases X <;> rfl
    have dd128 : decide (((s[0]'hp).toNat : Int) < 128) = false := by simp; omega
    have dd224 : decide (((s[0]'hp).toNat : Int) < 224) = true := by simp; omega
    have dd240 : decide (((s[0]'hp).toNat : Int) < 240) = true := by simp; omega
    have dd248 : decide (((s[0]'hp).toNat : Int) < 248) = true := by simp; omega
    have dds : decide ((s.size : Int) < 2) = false := by simp; omega
    have HG := Lib.hid hG'
    have HX := Lib.hid hX
    clear hG hG' hX
    go_enter Try.func27, Try.ntmps27
    go_wp2
    go_loop [4, 7] (fun a b => ∃ (k : Nat) (c : Int), 1 ≤ k ∧ k ≤ 2 ∧ a = .int .i64 c ∧ b = .int .i64 k ∧ 0 ≤ c ∧ c < 64 ^ k ∧ X = contF s (2 - k) k c) (fun _ b => (2 - intOf b).toNat)
    case atStart => exact ⟨1, ((s[0]'hp).toNat : Int) - 192, by omega, by omega, rfl, rfl, by omega, by omega, HX.out⟩
    case round =>
      obtain ⟨k, c, hk1, hk2, rfl, rfl, hc0, hc1, hcc⟩ := hrel
      have hp64 : (64 : Int) ^ k ≤ 64 ^ 4 := by
        have : (64 : Nat) ^ k ≤ 64 ^ 4 := Nat.pow_le_pow_right (by omega) (by omega)
        exact_mod_cast this
      have hc2 : c < 16777216 := by omega
      by_cases hlt : k ≤ 1
      · have hks : k < s.size := by omega
        have h256 := (s[k]'hks).toNat_lt
        have hbk := bAt_get s k hks
        rw [show 2 - k = (1 - k) + 1 by omega, contF_step] at hcc
        by_cases hb : 128 ≤ (s[k]'hks).toNat ∧ (s[k]'hks).toNat ≤ 191
        · rw [if_pos (by rw [hbk]; exact hb), hbk] at hcc
          have Hcc := Lib.hid hcc
          obtain ⟨hb1, hb2⟩ := hb
          have hn1 : ¬ (s[k]'hks).toNat < 128 := by omega
          have hn2 : ¬ 191 < (s[k]'hks).toNat := by omega
          clear hcc hbk
          go_wp2
          go_round
          case rel => exact ⟨k + 1, 64 * c + (s[k]'hks).toNat - 128, by omega, by omega, rfl, rfl, by omega, by rw [Int.pow_succ]; omega, by rw [show 2 - (k + 1) = 1 - k by omega]; exact Hcc.out⟩
          case measure => simp [intOf]; omega
        · rw [if_neg (by rw [hbk]; exact hb)] at hcc
          have H : oneF s 0 = (1, -1) := by rw [HG.out, hcc]; rfl
          have HF := Lib.hid H
          clear H hcc hbk
          by_cases hb1 : (s[k]'hks).toNat < 128
          · go_wp2
            go_ret2
            exact ⟨one_ret HF.out, rfl⟩
          · have hb2 : 191 < (s[k]'hks).toNat := by omega
            go_wp2
            go_ret2
            exact ⟨one_ret HF.out, rfl⟩
      · obtain rfl : k = 2 := by omega
        have H : oneF s 0 = if c < 128 ∨ c > 1114111 ∨ c ≥ 55296 ∧ c < 57344 then (1, -1) else ((1 : Int) + 1, c) := by rw [HG.out, hcc]; rfl
        clear hcc hp64
        by_cases q1 : c < 128
        · rw [if_pos (by omega)] at H
          have HF := Lib.hid H
          clear H
          go_wp2
          go_ret2
          exact ⟨one_ret HF.out, rfl⟩
        · by_cases q2 : 1114111 < c
          · rw [if_pos (by omega)] at H
            have HF := Lib.hid H
            clear H
            go_wp2
            go_ret2
            exact ⟨one_ret HF.out, rfl⟩
          · by_cases q3 : 55296 ≤ c
            · by_cases q4 : c < 57344
              · rw [if_pos (by omega)] at H
                have HF := Lib.hid H
                clear H
                go_wp2
                go_ret2
                exact ⟨one_ret HF.out, rfl⟩
              · rw [if_neg (by omega)] at H
                have HF := Lib.hid H
                clear H
                go_wp2
                go_ret2
                exact ⟨one_ret HF.out, rfl⟩
            · rw [if_neg (by omega)] at H
              have HF := Lib.hid H
              clear H
              go_wp2
              go_ret2
              exact ⟨one_ret HF.out, rfl⟩

set_option maxRecDepth 100000 in
set_option maxHeartbeats 4000000 in
theorem one_2 (s : ByteArray) (hs : s.size ≤ 140737488351232) (hp : 0 < s.size) (g1 : 224 ≤ (s[0]'hp).toNat) (g2 : (s[0]'hp).toNat < 240) (w : World) :
    Calls Try.prog 27 #[.string s] w fun e w' => e = .returned (.tuple #[.int .i64 (oneF s 0).1, .int .i64 (oneF s 0).2]) ∧ w = w' := by
  have hG : oneF s 0 = oneG s 2 (((s[0]'hp).toNat : Int) - 224) 2048 := by rw [bInt s 0 hp]; exact oneF_3 s (by rw [bAt_get s 0 hp]; exact g1) (by rw [bAt_get s 0 hp]; exact g2)
  by_cases hsz : s.size < 3
  · have H : oneF s 0 = (1, -1) := by rw [hG]; unfold oneG; rw [if_pos hsz]
    have HF := Lib.hid H
    clear H hG
    go_enter Try.func27, Try.ntmps27
    go_wp2
    go_ret2
    exact ⟨one_ret HF.out, rfl⟩
  · obtain ⟨X, hX⟩ : ∃ X, X = contF s 2 1 (((s[0]'hp).toNat : Int) - 224) := ⟨_, rfl⟩
    have hG' : oneF s 0 = finF 2 2048 X := by
      rw [hG]; unfold oneG; rw [if_neg hsz, ← hX]; cases X <;> rfl
    have dd128 : decide (((s[0]'hp).toNat : Int) < 128) = false := by simp; omega
    have dd224 : decide (((s[0]'hp).toNat : Int) < 224) = false := by simp; omega
    have dd240 : decide (((s[0]'hp).toNat : Int) < 240) = true := by simp; omega
    have dd248 : decide (((s[0]'hp).toNat : Int) < 248) = true := by simp; omega
    have dds : decide ((s.size : Int) < 3) = false := by simp; omega
    have HG := Lib.hid hG'
    have HX := Lib.hid hX
    clear hG hG' hX
    go_enter Try.func27, Try.ntmps27
    go_wp2
    go_loop [4, 7] (fun a b => ∃ (k : Nat) (c : Int), 1 ≤ k ∧ k ≤ 3 ∧ a = .int .i64 c ∧ b = .int .i64 k ∧ 0 ≤ c ∧ c < 64 ^ k ∧ X = contF s (3 - k) k c) (fun _ b => (3 - intOf b).toNat)
    case atStart => exact ⟨1, ((s[0]'hp).toNat : Int) - 224, by omega, by omega, rfl, rfl, by omega, by omega, HX.out⟩
    case round =>
      obtain ⟨k, c, hk1, hk2, rfl, rfl, hc0, hc1, hcc⟩ := hrel
      have hp64 : (64 : Int) ^ k ≤ 64 ^ 4 := by
        have : (64 : Nat) ^ k ≤ 64 ^ 4 := Nat.pow_le_pow_right (by omega) (by omega)
        exact_mod_cast this
      have hc2 : c < 16777216 := by omega
      by_cases hlt : k ≤ 2
      · have hks : k < s.size := by omega
        have h256 := (s[k]'hks).toNat_lt
        have hbk := bAt_get s k hks
        rw [show 3 - k = (2 - k) + 1 by omega, contF_step] at hcc
        by_cases hb : 128 ≤ (s[k]'hks).toNat ∧ (s[k]'hks).toNat ≤ 191
        · rw [if_pos (by rw [hbk]; exact hb), hbk] at hcc
          have Hcc := Lib.hid hcc
          obtain ⟨hb1, hb2⟩ := hb
          have hn1 : ¬ (s[k]'hks).toNat < 128 := by omega
          have hn2 : ¬ 191 < (s[k]'hks).toNat := by omega
          clear hcc hbk
          go_wp2
          go_round
          case rel => exact ⟨k + 1, 64 * c + (s[k]'hks).toNat - 128, by omega, by omega, rfl, rfl, by omega, by rw [Int.pow_succ]; omega, by rw [show 3 - (k + 1) = 2 - k by omega]; exact Hcc.out⟩
          case measure => simp [intOf]; omega
        · rw [if_neg (by rw [hbk]; exact hb)] at hcc
          have H : oneF s 0 = (1, -1) := by rw [HG.out, hcc]; rfl
          have HF := Lib.hid H
          clear H hcc hbk
          by_cases hb1 : (s[k]'hks).toNat < 128
          · go_wp2
            go_ret2
            exact ⟨one_ret HF.out, rfl⟩
          · have hb2 : 191 < (s[k]'hks).toNat := by omega
            go_wp2
            go_ret2
            exact ⟨one_ret HF.out, rfl⟩
      · obtain rfl : k = 3 := by omega
        have H : oneF s 0 = if c < 2048 ∨ c > 1114111 ∨ c ≥ 55296 ∧ c < 57344 then (1, -1) else ((2 : Int) + 1, c) := by rw [HG.out, hcc]; rfl
        clear hcc hp64
        by_cases q1 : c < 2048
        · rw [if_pos (by omega)] at H
          have HF := Lib.hid H
          clear H
          go_wp2
          go_ret2
          exact ⟨one_ret HF.out, rfl⟩
        · by_cases q2 : 1114111 < c
          · rw [if_pos (by omega)] at H
            have HF := Lib.hid H
            clear H
            go_wp2
            go_ret2
            exact ⟨one_ret HF.out, rfl⟩
          · by_cases q3 : 55296 ≤ c
            · by_cases q4 : c < 57344
              · rw [if_pos (by omega)] at H
                have HF := Lib.hid H
                clear H
                go_wp2
                go_ret2
                exact ⟨one_ret HF.out, rfl⟩
              · rw [if_neg (by omega)] at H
                have HF := Lib.hid H
                clear H
                go_wp2
                go_ret2
                exact ⟨one_ret HF.out, rfl⟩
            · rw [if_neg (by omega)] at H
              have HF := Lib.hid H
              clear H
              go_wp2
              go_ret2
              exact ⟨one_ret HF.out, rfl⟩

set_option maxRecDepth 100000 in
set_option maxHeartbeats 4000000 in
theorem one_3 (s : ByteArray) (hs : s.size ≤ 140737488351232) (hp : 0 < s.size) (g1 : 240 ≤ (s[0]'hp).toNat) (g2 : (s[0]'hp).toNat < 248) (w : World) :
    Calls Try.prog 27 #[.string s] w fun e w' => e = .returned (.tuple #[.int .i64 (oneF s 0).1, .int .i64 (oneF s 0).2]) ∧ w = w' := by
  have hG : oneF s 0 = oneG s 3 (((s[0]'hp).toNat : Int) - 240) 65536 := by rw [bInt s 0 hp]; exact oneF_4 s (by rw [bAt_get s 0 hp]; exact g1) (by rw [bAt_get s 0 hp]; exact g2)
  by_cases hsz : s.size < 4
  · have H : oneF s 0 = (1, -1) := by rw [hG]; unfold oneG; rw [if_pos hsz]
    have HF := Lib.hid H
    clear H hG
    go_enter Try.func27, Try.ntmps27
    go_wp2
    go_ret2
    exact ⟨one_ret HF.out, rfl⟩
  · obtain ⟨X, hX⟩ : ∃ X, X = contF s 3 1 (((s[0]'hp).toNat : Int) - 240) := ⟨_, rfl⟩
    have hG' : oneF s 0 = finF 3 65536 X := by
      rw [hG]; unfold oneG; rw [if_neg hsz, ← hX]; cases X <;> rfl
    have dd128 : decide (((s[0]'hp).toNat : Int) < 128) = false := by simp; omega
    have dd224 : decide (((s[0]'hp).toNat : Int) < 224) = false := by simp; omega
    have dd240 : decide (((s[0]'hp).toNat : Int) < 240) = false := by simp; omega
    have dd248 : decide (((s[0]'hp).toNat : Int) < 248) = true := by simp; omega
    have dds : decide ((s.size : Int) < 4) = false := by simp; omega
    have HG := Lib.hid hG'
    have HX := Lib.hid hX
    clear hG hG' hX
    go_enter Try.func27, Try.ntmps27
    go_wp2
    go_loop [4, 7] (fun a b => ∃ (k : Nat) (c : Int), 1 ≤ k ∧ k ≤ 4 ∧ a = .int .i64 c ∧ b = .int .i64 k ∧ 0 ≤ c ∧ c < 64 ^ k ∧ X = contF s (4 - k) k c) (fun _ b => (4 - intOf b).toNat)
    case atStart => exact ⟨1, ((s[0]'hp).toNat : Int) - 240, by omega, by omega, rfl, rfl, by omega, by omega, HX.out⟩
    case round =>
      obtain ⟨k, c, hk1, hk2, rfl, rfl, hc0, hc1, hcc⟩ := hrel
      have hp64 : (64 : Int) ^ k ≤ 64 ^ 4 := by
        have : (64 : Nat) ^ k ≤ 64 ^ 4 := Nat.pow_le_pow_right (by omega) (by omega)
        exact_mod_cast this
      have hc2 : c < 16777216 := by omega
      by_cases hlt : k ≤ 3
      · have hks : k < s.size := by omega
        have h256 := (s[k]'hks).toNat_lt
        have hbk := bAt_get s k hks
        rw [show 4 - k = (3 - k) + 1 by omega, contF_step] at hcc
        by_cases hb : 128 ≤ (s[k]'hks).toNat ∧ (s[k]'hks).toNat ≤ 191
        · rw [if_pos (by rw [hbk]; exact hb), hbk] at hcc
          have Hcc := Lib.hid hcc
          obtain ⟨hb1, hb2⟩ := hb
          have hn1 : ¬ (s[k]'hks).toNat < 128 := by omega
          have hn2 : ¬ 191 < (s[k]'hks).toNat := by omega
          clear hcc hbk
          go_wp2
          go_round
          case rel => exact ⟨k + 1, 64 * c + (s[k]'hks).toNat - 128, by omega, by omega, rfl, rfl, by omega, by rw [Int.pow_succ]; omega, by rw [show 4 - (k + 1) = 3 - k by omega]; exact Hcc.out⟩
          case measure => simp [intOf]; omega
        · rw [if_neg (by rw [hbk]; exact hb)] at hcc
          have H : oneF s 0 = (1, -1) := by rw [HG.out, hcc]; rfl
          have HF := Lib.hid H
          clear H hcc hbk
          by_cases hb1 : (s[k]'hks).toNat < 128
          · go_wp2
            go_ret2
            exact ⟨one_ret HF.out, rfl⟩
          · have hb2 : 191 < (s[k]'hks).toNat := by omega
            go_wp2
            go_ret2
            exact ⟨one_ret HF.out, rfl⟩
      · obtain rfl : k = 4 := by omega
        have H : oneF s 0 = if c < 65536 ∨ c > 1114111 ∨ c ≥ 55296 ∧ c < 57344 then (1, -1) else ((3 : Int) + 1, c) := by rw [HG.out, hcc]; rfl
        clear hcc hp64
        by_cases q1 : c < 65536
        · rw [if_pos (by omega)] at H
          have HF := Lib.hid H
          clear H
          go_wp2
          go_ret2
          exact ⟨one_ret HF.out, rfl⟩
        · by_cases q2 : 1114111 < c
          · rw [if_pos (by omega)] at H
            have HF := Lib.hid H
            clear H
            go_wp2
            go_ret2
            exact ⟨one_ret HF.out, rfl⟩
          · by_cases q3 : 55296 ≤ c
            · by_cases q4 : c < 57344
              · rw [if_pos (by omega)] at H
                have HF := Lib.hid H
                clear H
                go_wp2
                go_ret2
                exact ⟨one_ret HF.out, rfl⟩
              · rw [if_neg (by omega)] at H
                have HF := Lib.hid H
                clear H
                go_wp2
                go_ret2
                exact ⟨one_ret HF.out, rfl⟩
            · rw [if_neg (by omega)] at H
              have HF := Lib.hid H
              clear H
              go_wp2
              go_ret2
              exact ⟨one_ret HF.out, rfl⟩

set_option maxRecDepth 100000 in
set_option maxHeartbeats 4000000 in
theorem one_any (s : ByteArray) (hs : s.size ≤ 140737488351232) (hp : 0 < s.size) (w : World) :
    Calls Try.prog 27 #[.string s] w fun e w' => e = .returned (.tuple #[.int .i64 (oneF s 0).1, .int .i64 (oneF s 0).2]) ∧ w = w' := by
  have h256 := (s[0]'hp).toNat_lt
  by_cases g1 : (s[0]'hp).toNat < 128
  · have H := oneF_1 s (by omega) (by rw [bAt_get s 0 hp]; exact g1)
    rw [bAt_get s 0 hp] at H
    have HF := Lib.hid H
    clear H
    go_enter Try.func27, Try.ntmps27
    go_wp2
    go_ret2
    exact ⟨one_ret HF.out, rfl⟩
  · by_cases g2 : (s[0]'hp).toNat < 192
    · have H := oneF_bad s (by rw [bAt_get s 0 hp]; omega) (by rw [bAt_get s 0 hp]; exact .inl g2)
      have HF := Lib.hid H
      clear H
      go_enter Try.func27, Try.ntmps27
      go_wp2
      go_ret2
      exact ⟨one_ret HF.out, rfl⟩
    · by_cases g3 : (s[0]'hp).toNat < 224
      · exact one_1 s hs hp (by omega) g3 w
      · by_cases g4 : (s[0]'hp).toNat < 240
        · exact one_2 s hs hp (by omega) g4 w
        · by_cases g5 : (s[0]'hp).toNat < 248
          · exact one_3 s hs hp (by omega) g5 w
          · have H := oneF_bad s (by rw [bAt_get s 0 hp]; omega) (by rw [bAt_get s 0 hp]; right; omega)
            have HF := Lib.hid H
            clear H
            go_enter Try.func27, Try.ntmps27
            go_wp2
            go_ret2
            exact ⟨one_ret HF.out, rfl⟩
end Go.Proofs.Ytmacmjbjccfgaaa
