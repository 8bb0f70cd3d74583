/- The walk of PollClock: it answers true. No condition but that the argument reads. -/
import Derived.Test.YtcleicjgeflbnaaG28
import Derived.Test.YtcleicjgeflbnaaG26
import Derived.Test.YtcleicjgeflbnaaG9
namespace Go.Proofs.Ytcleicjgeflbnaa
open Go.RowKit Go.ChangeShapes Go.WideShapes Go.Deep

theorem PollD.tick_tick {a b : Int} (hab : a ≤ b) (p : PollD) : (p.tick a).tick b = p.tick b := by
  by_cases h : p.due a = true
  · have h2 : p.due b = true := by
      simp only [PollD.due, decide_eq_true_eq] at h ⊢
      exact ⟨h.1, by omega⟩
    rw [tick_due h, tick_due h2]
    exact tick_skip (by simp [PollD.due])
  · have h' : p.due a = false := by simpa using h
    rw [tick_skip h']
theorem StateD.tick_tick {a b : Int} (hab : a ≤ b) (x : StateD) : (x.tick a).tick b = x.tick b := by
  simp only [StateD.tick, List.map_map]
  congr 1
  exact List.map_congr_left fun p _ => PollD.tick_tick hab p
theorem count_tick {a b : Int} (hab : a ≤ b) : ∀ (l : List PollD), l.countP (PollD.due b) = l.countP (PollD.due a) + (l.map (PollD.tick a)).countP (PollD.due b)
  | [] => rfl
  | p :: l => by
    have ih := count_tick hab l
    simp only [List.map_cons, List.countP_cons]
    by_cases h : p.due a = true
    · have h2 : p.due b = true := by
        simp only [PollD.due, decide_eq_true_eq] at h ⊢
        exact ⟨h.1, by omega⟩
      have h3 : (p.tick a).due b = false := by rw [tick_due h]; simp [PollD.due]
      simp only [h, h2, h3, if_true, Bool.false_eq_true, if_false]
      omega
    · have h' : p.due a = false := by simpa using h
      rw [tick_skip h', h']
      simp only [Bool.false_eq_true, if_false]
      omega

def askZ : AskD := ⟨0, 0, 0, 0, 0, ⟨0, [], [], [], 0, 0⟩, ⟨0, 0, false, false, ⟨0, 0, 0, 0, [], [], [], [], 0⟩, [], [], []⟩, ⟨0, 0, 0, 0, [], [], 0, [], []⟩, ByteArray.empty, 0, 0, 0, false, 0⟩
abbrev askZC : List Value := [.int .i64 0, .int .u32 0, .int .u64 0, .int .u32 0, .int .u32 0, .int .i64 0, .slice none 0 0, .slice none 0 0, .slice none 0 0, .int .i64 0, .int .i64 0, .int .i64 0, .int .i64 0, .bool false, .bool false, .int .i64 0, .int .i64 0, .int .i64 0, .int .i64 0, .slice none 0 0, .slice none 0 0, .slice none 0 0, .slice none 0 0, .int .i64 0, .slice none 0 0, .slice none 0 0, .slice none 0 0, .int .i64 0, .int .i64 0, .int .i64 0, .int .i64 0, .slice none 0 0, .slice none 0 0, .int .i64 0, .slice none 0 0, .slice none 0 0, .string ⟨#[]⟩, .int .i64 0, .int .u32 0, .int .i64 0, .bool false, .int .i64 0]
theorem rAsk_zero (w : World) : rAsk w askZC askZ :=
  ⟨[_, _, _, _, _, _], [_, _, _, _, _, _, _, _, _, _, _, _, _, _, _, _], [_, _, _, _, _, _, _, _, _], rfl, wz (by decide), wz (by decide), wz (by decide), wz (by decide), wz (by decide), wz (by decide), wz (by decide), wz (by decide), wz (by decide), by decide,
    ⟨_, _, _, rfl, wz (by decide), wz (by decide), wz (by decide), Row.empty .., Row.empty .., Row.empty ..⟩,
    ⟨[_, _, _, _, _, _, _, _, _], _, _, _, rfl, wz (by decide), wz (by decide), ⟨_, _, _, _, rfl, wz (by decide), wz (by decide), wz (by decide), wz (by decide), wz (by decide), Row.empty .., Row.empty .., Row.empty .., Row.empty ..⟩, Row.empty .., Row.empty .., Row.empty ..⟩,
    ⟨_, _, _, _, rfl, wz (by decide), wz (by decide), wz (by decide), wz (by decide), wz (by decide), Row.empty .., Row.empty .., Row.empty .., Row.empty ..⟩⟩
theorem below_alloc (w : World) (o : Obj) : Below w.heap.size w (w.alloc o) := (Below.refl _ _).alloc (Nat.le_refl _) o

set_option maxHeartbeats 8000000 in
theorem pollClock_walk (cs : List Value) (x : StateD) (a b : Int) (w : World) (h : rState w cs x) (wa : wfi .i64 a) (wb : wfi .i64 b) :
    Calls Try.prog 3 #[.agg cs.toArray, .int .i64 a, .int .i64 b] w fun e w' => e = .returned (.bool true) ∧ Below w.heap.size w w' := by
  have S0 := Lib.hid h
  obtain ⟨u, p, d, rfl, _, ⟨o1, n1, c1, rfl, _⟩, ⟨o2, n2, c2, rfl, _⟩, ⟨o3, n3, c3, rfl, _⟩⟩ := h
  have HB := Lib.hid (below_alloc w (.cells #[.int .i64 x.clock, .slice o1 n1 c1, .slice o2 n2 c2, .slice o3 n3 c3] 26))
  have CG := Lib.hid (fun (W : World) (hb : Below w.heap.size w W) => great24_any _ [.int .i64 0, .int .u32 0, .int .u64 0, .int .u32 0, .int .u32 0, .int .i64 0, .slice none 0 0, .slice none 0 0, .slice none 0 0, .int .i64 0, .int .i64 0, .int .i64 0, .int .i64 0, .bool false, .bool false, .int .i64 0, .int .i64 0, .int .i64 0, .int .i64 0, .slice none 0 0, .slice none 0 0, .slice none 0 0, .slice none 0 0, .int .i64 0, .slice none 0 0, .slice none 0 0, .slice none 0 0, .int .i64 0, .int .i64 0, .int .i64 0, .int .i64 0, .slice none 0 0, .slice none 0 0, .int .i64 0, .slice none 0 0, .slice none 0 0, .string ⟨#[]⟩, .int .i64 0, .int .u32 0, .int .i64 0, .bool false, .int .i64 0] x askZ W (S0.out.later hb) (rAsk_zero W))
  have CF := Lib.hid (fun (W : World) => fixed_any W)
  go_enter Try.func3, Try.ntmps3
  go_wp2_with fail
  (with_reducible refine (CG.out _ HB.out).mono ?_)
  rintro e w1 ⟨g, rfl, hg, hb1⟩
  have kS1 : ∀ j, World.cell? w1 ⟨w.heap.size, j, none⟩ = World.cell? (w.alloc (.cells #[.int .i64 x.clock, .slice o1 n1 c1, .slice o2 n2 c2, .slice o3 n3 c3] 26)) ⟨w.heap.size, j, none⟩ := fun j => hb1.cell (by simp)
  have zS1 : w.heap.size < w1.heap.size := Nat.lt_of_lt_of_le (by simp) hb1.size
  have HB1 := Lib.hid (below_call HB.out hb1)
  have HG := Lib.hid hg
  clear hb1 hg
  cases g with
  | true =>
    go_wp2_with fail
    (with_reducible refine (CF.out _).mono ?_)
    rintro e w2 ⟨rfl, hb2⟩
    have HB2 := Lib.hid (below_call HB1.out hb2)
    clear hb2
    go_wp2_with fail
    go_ret
    exact ⟨rfl, HB2.out⟩
  | false =>
    have hn := (HG.out rfl).1.2.1
    by_cases hab : b < a
    · have dab := decide_eq_true hab
      go_wp2_with fail
      (with_reducible refine (CF.out _).mono ?_)
      rintro e w2 ⟨rfl, hb2⟩
      have HB2 := Lib.hid (below_call HB1.out hb2)
      clear hb2
      go_wp2_with fail
      go_ret
      exact ⟨rfl, HB2.out⟩
    · have dab := decide_eq_false hab
      have hab' : a ≤ b := by omega
      have HAB := Lib.hid hab'
      have S1 := Lib.hid (S0.out.later HB1.out)
      by_cases ga : a < x.clock ∨ 158310720 < a
      · have CT := Lib.hid (tick_bad _ x w1 S1.out a ga)
        clear ga
        go_wp2_with fail
        (with_reducible refine CT.out.mono ?_)
        rintro e w2 ⟨rfl, hb2⟩
        have HB2 := Lib.hid (below_call HB1.out hb2)
        clear hb2 kS1
        go_wp2_with fail
        (with_reducible refine (CF.out _).mono ?_)
        rintro e w3 ⟨rfl, hb3⟩
        have HB3 := Lib.hid (below_call (HB2.out.alloc HB2.out.size _) hb3)
        clear hb3
        go_wp2_with fail
        go_ret
        exact ⟨rfl, HB3.out⟩
      · have ga1 : ¬ a < x.clock := fun h => ga (.inl h)
        have ga2 : ¬ 158310720 < a := fun h => ga (.inr h)
        have CT := Lib.hid (tick_any _ x w1 S1.out a wa ga1 ga2 (by omega))
        have GA := Lib.hid (And.intro ga1 ga2)
        clear ga ga1 ga2
        go_wp2_with fail
        (with_reducible refine CT.out.mono ?_)
        rintro e w2 ⟨cs2, he, hs2, hb2⟩
        rw [show Array.mk cs2 = cs2.toArray from rfl] at he
        have hs2c := hs2
        obtain ⟨_, _, _, rfl, _, ⟨p1, q1, r1, rfl, _⟩, ⟨p2, q2, r2, rfl, _⟩, ⟨p3, q3, r3, rfl, _⟩⟩ := hs2
        have T2 := Lib.hid (show rState w2 [.int .i64 a, .slice p1 q1 r1, .slice p2 q2 r2, .slice p3 q3 r3] (x.tick a) from hs2c)
        clear hs2c
        simp only [StateD.tick] at he
        subst he
        have kS2 : ∀ j, World.cell? w2 ⟨w.heap.size, j, none⟩ = World.cell? (w.alloc (.cells #[.int .i64 x.clock, .slice o1 n1 c1, .slice o2 n2 c2, .slice o3 n3 c3] 26)) ⟨w.heap.size, j, none⟩ := fun j => (hb2.cell zS1).trans (kS1 j)
        have zS2 : w.heap.size < w2.heap.size := Nat.lt_of_lt_of_le zS1 hb2.size
        have S2 := Lib.hid (S1.out.later hb2)
        have HB2 := Lib.hid (below_call HB1.out hb2)
        clear hb2 kS1 zS1
        have T2' := Lib.hid (T2.out.later (below_alloc w2 (.cells #[.int .i64 a, .slice p1 q1 r1, .slice p2 q2 r2, .slice p3 q3 r3] 26)))
        have S2' := Lib.hid (S2.out.later (below_alloc w2 (.cells #[.int .i64 a, .slice p1 q1 r1, .slice p2 q2 r2, .slice p3 q3 r3] 26)))
        have HB2' := Lib.hid (HB2.out.alloc HB2.out.size (.cells #[.int .i64 a, .slice p1 q1 r1, .slice p2 q2 r2, .slice p3 q3 r3] 26))
        by_cases gb : 158310720 < b
        · have CT := Lib.hid (tick_bad _ (x.tick a) _ T2'.out b (.inr gb))
          have GB := Lib.hid gb
          clear gb
          go_wp2_with fail
          (with_reducible refine CT.out.mono ?_)
          rintro e w3 ⟨rfl, hb3⟩
          have kS3 : ∀ j, World.cell? w3 ⟨w.heap.size, j, none⟩ = World.cell? (w.alloc (.cells #[.int .i64 x.clock, .slice o1 n1 c1, .slice o2 n2 c2, .slice o3 n3 c3] 26)) ⟨w.heap.size, j, none⟩ := fun j => (hb3.cell (by have := zS2; simp; omega)).trans ((World.cell?_alloc_lt w2 _ _ zS2).trans (kS2 j))
          have zS3 : w.heap.size < w3.heap.size := Nat.lt_of_lt_of_le (Nat.lt_of_lt_of_le zS2 (by simp)) hb3.size
          have kT3 : ∀ j, World.cell? w3 ⟨w2.heap.size, j, none⟩ = World.cell? (w2.alloc (.cells #[.int .i64 a, .slice p1 q1 r1, .slice p2 q2 r2, .slice p3 q3 r3] 26)) ⟨w2.heap.size, j, none⟩ := fun j => hb3.cell (by simp)
          have zT3 : w2.heap.size < w3.heap.size := Nat.lt_of_lt_of_le (by simp) hb3.size
          have HB3 := Lib.hid (below_call HB2'.out hb3)
          have S3 := Lib.hid (S2'.out.later hb3)
          have T3 := Lib.hid (T2'.out.later hb3)
          clear hb3 kS2 zS2
          have HB3' := Lib.hid (HB3.out.alloc HB3.out.size (.cells #[.int .i64 a, .slice p1 q1 r1, .slice p2 q2 r2, .slice p3 q3 r3] 26))
          have S3' := Lib.hid (S3.out.later (below_alloc w3 (.cells #[.int .i64 a, .slice p1 q1 r1, .slice p2 q2 r2, .slice p3 q3 r3] 26)))
          have T3' := Lib.hid (T3.out.later (below_alloc w3 (.cells #[.int .i64 a, .slice p1 q1 r1, .slice p2 q2 r2, .slice p3 q3 r3] 26)))
          have CV := Lib.hid (tick_bad _ x _ S3'.out b (.inr (by have := GB.out; omega)))
          go_wp2_with fail
          (with_reducible refine CV.out.mono ?_)
          rintro e w4 ⟨rfl, hb4⟩
          have kS4 : ∀ j, World.cell? w4 ⟨w.heap.size, j, none⟩ = World.cell? (w.alloc (.cells #[.int .i64 x.clock, .slice o1 n1 c1, .slice o2 n2 c2, .slice o3 n3 c3] 26)) ⟨w.heap.size, j, none⟩ := fun j => (hb4.cell (by have := zS3; simp; omega)).trans ((World.cell?_alloc_lt w3 _ _ zS3).trans (kS3 j))
          have zS4 : w.heap.size < w4.heap.size := Nat.lt_of_lt_of_le (Nat.lt_of_lt_of_le zS3 (by simp)) hb4.size
          have kT4 : ∀ j, World.cell? w4 ⟨w2.heap.size, j, none⟩ = World.cell? (w2.alloc (.cells #[.int .i64 a, .slice p1 q1 r1, .slice p2 q2 r2, .slice p3 q3 r3] 26)) ⟨w2.heap.size, j, none⟩ := fun j => (hb4.cell (by have := zT3; simp; omega)).trans ((World.cell?_alloc_lt w3 _ _ zT3).trans (kT3 j))
          have zT4 : w2.heap.size < w4.heap.size := Nat.lt_of_lt_of_le (Nat.lt_of_lt_of_le zT3 (by simp)) hb4.size
          have kU4 : ∀ j, World.cell? w4 ⟨w3.heap.size, j, none⟩ = World.cell? (w3.alloc (.cells #[.int .i64 a, .slice p1 q1 r1, .slice p2 q2 r2, .slice p3 q3 r3] 26)) ⟨w3.heap.size, j, none⟩ := fun j => hb4.cell (by simp)
          have zU4 : w3.heap.size < w4.heap.size := Nat.lt_of_lt_of_le (by simp) hb4.size
          have HB4 := Lib.hid (below_call HB3'.out hb4)
          have S4 := Lib.hid (S3'.out.later hb4)
          have T4 := Lib.hid (T3'.out.later hb4)
          clear hb4 kS3 zS3 kT3 zT3
          have HB4' := Lib.hid (HB4.out.alloc HB4.out.size (.cells #[.int .i64 x.clock, .slice o1 n1 c1, .slice o2 n2 c2, .slice o3 n3 c3] 26))
          have S4' := Lib.hid (S4.out.later (below_alloc w4 (.cells #[.int .i64 x.clock, .slice o1 n1 c1, .slice o2 n2 c2, .slice o3 n3 c3] 26)))
          have T4' := Lib.hid (T4.out.later (below_alloc w4 (.cells #[.int .i64 x.clock, .slice o1 n1 c1, .slice o2 n2 c2, .slice o3 n3 c3] 26)))
          go_wp2_with fail
          (with_reducible refine (CF.out _).mono ?_)
          rintro e w5 ⟨rfl, hb5⟩
          have kS5 : ∀ j, World.cell? w5 ⟨w.heap.size, j, none⟩ = World.cell? (w.alloc (.cells #[.int .i64 x.clock, .slice o1 n1 c1, .slice o2 n2 c2, .slice o3 n3 c3] 26)) ⟨w.heap.size, j, none⟩ := fun j => (hb5.cell (by have := zS4; simp; omega)).trans ((World.cell?_alloc_lt w4 _ _ zS4).trans (kS4 j))
          have zS5 : w.heap.size < w5.heap.size := Nat.lt_of_lt_of_le (Nat.lt_of_lt_of_le zS4 (by simp)) hb5.size
          have kT5 : ∀ j, World.cell? w5 ⟨w2.heap.size, j, none⟩ = World.cell? (w2.alloc (.cells #[.int .i64 a, .slice p1 q1 r1, .slice p2 q2 r2, .slice p3 q3 r3] 26)) ⟨w2.heap.size, j, none⟩ := fun j => (hb5.cell (by have := zT4; simp; omega)).trans ((World.cell?_alloc_lt w4 _ _ zT4).trans (kT4 j))
          have zT5 : w2.heap.size < w5.heap.size := Nat.lt_of_lt_of_le (Nat.lt_of_lt_of_le zT4 (by simp)) hb5.size
          have kU5 : ∀ j, World.cell? w5 ⟨w3.heap.size, j, none⟩ = World.cell? (w3.alloc (.cells #[.int .i64 a, .slice p1 q1 r1, .slice p2 q2 r2, .slice p3 q3 r3] 26)) ⟨w3.heap.size, j, none⟩ := fun j => (hb5.cell (by have := zU4; simp; omega)).trans ((World.cell?_alloc_lt w4 _ _ zU4).trans (kU4 j))
          have zU5 : w3.heap.size < w5.heap.size := Nat.lt_of_lt_of_le (Nat.lt_of_lt_of_le zU4 (by simp)) hb5.size
          have kV5 : ∀ j, World.cell? w5 ⟨w4.heap.size, j, none⟩ = World.cell? (w4.alloc (.cells #[.int .i64 x.clock, .slice o1 n1 c1, .slice o2 n2 c2, .slice o3 n3 c3] 26)) ⟨w4.heap.size, j, none⟩ := fun j => hb5.cell (by simp)
          have zV5 : w4.heap.size < w5.heap.size := Nat.lt_of_lt_of_le (by simp) hb5.size
          have HB5 := Lib.hid (below_call HB4'.out hb5)
          have S5 := Lib.hid (S4'.out.later hb5)
          have T5 := Lib.hid (T4'.out.later hb5)
          clear hb5 kS4 zS4 kT4 zT4 kU4 zU4
          by_cases hq : x.tick a = x
          · have CS := Lib.hid (c_t (state_any _ _ (x.tick a) x w5 T5.out S5.out) hq)
            have HQ := Lib.hid hq
            clear hq
            go_wp2_with fail
            (with_reducible refine CS.out.mono ?_)
            rintro e w6 ⟨rfl, hb6⟩
            have kS6 : ∀ j, World.cell? w6 ⟨w.heap.size, j, none⟩ = World.cell? (w.alloc (.cells #[.int .i64 x.clock, .slice o1 n1 c1, .slice o2 n2 c2, .slice o3 n3 c3] 26)) ⟨w.heap.size, j, none⟩ := fun j => (hb6.cell zS5).trans (kS5 j)
            have zS6 : w.heap.size < w6.heap.size := Nat.lt_of_lt_of_le zS5 hb6.size
            have kT6 : ∀ j, World.cell? w6 ⟨w2.heap.size, j, none⟩ = World.cell? (w2.alloc (.cells #[.int .i64 a, .slice p1 q1 r1, .slice p2 q2 r2, .slice p3 q3 r3] 26)) ⟨w2.heap.size, j, none⟩ := fun j => (hb6.cell zT5).trans (kT5 j)
            have zT6 : w2.heap.size < w6.heap.size := Nat.lt_of_lt_of_le zT5 hb6.size
            have kU6 : ∀ j, World.cell? w6 ⟨w3.heap.size, j, none⟩ = World.cell? (w3.alloc (.cells #[.int .i64 a, .slice p1 q1 r1, .slice p2 q2 r2, .slice p3 q3 r3] 26)) ⟨w3.heap.size, j, none⟩ := fun j => (hb6.cell zU5).trans (kU5 j)
            have zU6 : w3.heap.size < w6.heap.size := Nat.lt_of_lt_of_le zU5 hb6.size
            have kV6 : ∀ j, World.cell? w6 ⟨w4.heap.size, j, none⟩ = World.cell? (w4.alloc (.cells #[.int .i64 x.clock, .slice o1 n1 c1, .slice o2 n2 c2, .slice o3 n3 c3] 26)) ⟨w4.heap.size, j, none⟩ := fun j => (hb6.cell zV5).trans (kV5 j)
            have zV6 : w4.heap.size < w6.heap.size := Nat.lt_of_lt_of_le zV5 hb6.size
            have HB6 := Lib.hid (below_call HB5.out hb6)
            have S6 := Lib.hid (S5.out.later hb6)
            have T6 := Lib.hid (T5.out.later hb6)
            clear hb6 kS5 zS5 kT5 zT5 kU5 zU5 kV5 zV5
            have CR := Lib.hid (c_t (state_any _ _ (x.tick a) x w6 T6.out S6.out) HQ.out)
            go_wp2_with fail
            (with_reducible refine CR.out.mono ?_)
            rintro e w7 ⟨rfl, hb7⟩
            have HB7 := Lib.hid (below_call HB6.out hb7)
            clear hb7
            go_wp2_with fail
            go_ret
            exact ⟨rfl, HB7.out⟩
          · have CS := Lib.hid (c_f (state_any _ _ (x.tick a) x w5 T5.out S5.out) hq)
            have HQ := Lib.hid hq
            clear hq
            go_wp2_with fail
            (with_reducible refine CS.out.mono ?_)
            rintro e w6 ⟨rfl, hb6⟩
            have kS6 : ∀ j, World.cell? w6 ⟨w.heap.size, j, none⟩ = World.cell? (w.alloc (.cells #[.int .i64 x.clock, .slice o1 n1 c1, .slice o2 n2 c2, .slice o3 n3 c3] 26)) ⟨w.heap.size, j, none⟩ := fun j => (hb6.cell zS5).trans (kS5 j)
            have zS6 : w.heap.size < w6.heap.size := Nat.lt_of_lt_of_le zS5 hb6.size
            have kT6 : ∀ j, World.cell? w6 ⟨w2.heap.size, j, none⟩ = World.cell? (w2.alloc (.cells #[.int .i64 a, .slice p1 q1 r1, .slice p2 q2 r2, .slice p3 q3 r3] 26)) ⟨w2.heap.size, j, none⟩ := fun j => (hb6.cell zT5).trans (kT5 j)
            have zT6 : w2.heap.size < w6.heap.size := Nat.lt_of_lt_of_le zT5 hb6.size
            have kU6 : ∀ j, World.cell? w6 ⟨w3.heap.size, j, none⟩ = World.cell? (w3.alloc (.cells #[.int .i64 a, .slice p1 q1 r1, .slice p2 q2 r2, .slice p3 q3 r3] 26)) ⟨w3.heap.size, j, none⟩ := fun j => (hb6.cell zU5).trans (kU5 j)
            have zU6 : w3.heap.size < w6.heap.size := Nat.lt_of_lt_of_le zU5 hb6.size
            have kV6 : ∀ j, World.cell? w6 ⟨w4.heap.size, j, none⟩ = World.cell? (w4.alloc (.cells #[.int .i64 x.clock, .slice o1 n1 c1, .slice o2 n2 c2, .slice o3 n3 c3] 26)) ⟨w4.heap.size, j, none⟩ := fun j => (hb6.cell zV5).trans (kV5 j)
            have zV6 : w4.heap.size < w6.heap.size := Nat.lt_of_lt_of_le zV5 hb6.size
            have HB6 := Lib.hid (below_call HB5.out hb6)
            have S6 := Lib.hid (S5.out.later hb6)
            have T6 := Lib.hid (T5.out.later hb6)
            clear hb6 kS5 zS5 kT5 zT5 kU5 zU5 kV5 zV5
            have CR := Lib.hid (c_f (state_any _ _ (x.tick a) x w6 T6.out S6.out) HQ.out)
            go_wp2_with fail
            (with_reducible refine CR.out.mono ?_)
            rintro e w7 ⟨rfl, hb7⟩
            have HB7 := Lib.hid (below_call HB6.out hb7)
            clear hb7
            go_wp2_with fail
            go_ret
            exact ⟨rfl, HB7.out⟩
        · have CT := Lib.hid (tick_any _ (x.tick a) _ T2'.out b wb (show ¬ b < a by have := HAB.out; omega) gb (by simp only [StateD.tick, List.length_map]; omega))
          have GB := Lib.hid gb
          clear gb
          go_wp2_with fail
          (with_reducible refine CT.out.mono ?_)
          rintro e w3 ⟨cs3, he, hs3, hb3⟩
          rw [show Array.mk cs3 = cs3.toArray from rfl] at he
          have hs3c := hs3
          obtain ⟨_, _, _, rfl, _, ⟨s1, t1, v1, rfl, _⟩, ⟨s2, t2, v2, rfl, _⟩, ⟨s3, t3, v3, rfl, _⟩⟩ := hs3
          have U3 := Lib.hid (show rState w3 [.int .i64 b, .slice s1 t1 v1, .slice s2 t2 v2, .slice s3 t3 v3] ((x.tick a).tick b) from hs3c)
          clear hs3c
          simp only [StateD.tick] at he
          subst he
          have kS3 : ∀ j, World.cell? w3 ⟨w.heap.size, j, none⟩ = World.cell? (w.alloc (.cells #[.int .i64 x.clock, .slice o1 n1 c1, .slice o2 n2 c2, .slice o3 n3 c3] 26)) ⟨w.heap.size, j, none⟩ := fun j => (hb3.cell (by have := zS2; simp; omega)).trans ((World.cell?_alloc_lt w2 _ _ zS2).trans (kS2 j))
          have zS3 : w.heap.size < w3.heap.size := Nat.lt_of_lt_of_le (Nat.lt_of_lt_of_le zS2 (by simp)) hb3.size
          have kT3 : ∀ j, World.cell? w3 ⟨w2.heap.size, j, none⟩ = World.cell? (w2.alloc (.cells #[.int .i64 a, .slice p1 q1 r1, .slice p2 q2 r2, .slice p3 q3 r3] 26)) ⟨w2.heap.size, j, none⟩ := fun j => hb3.cell (by simp)
          have zT3 : w2.heap.size < w3.heap.size := Nat.lt_of_lt_of_le (by simp) hb3.size
          have HB3 := Lib.hid (below_call HB2'.out hb3)
          have S3 := Lib.hid (S2'.out.later hb3)
          have T3 := Lib.hid (T2'.out.later hb3)
          clear hb3 kS2 zS2
          have HU3 := Lib.hid (show rState w3 [.int .i64 b, .slice s1 t1 v1, .slice s2 t2 v2, .slice s3 t3 v3] (x.tick b) by rw [← StateD.tick_tick HAB.out x]; exact U3.out)
          have Q3 := Lib.hid HU3.out
          have HB3' := Lib.hid (HB3.out.alloc HB3.out.size (.cells #[.int .i64 b, .slice s1 t1 v1, .slice s2 t2 v2, .slice s3 t3 v3] 26))
          have S3' := Lib.hid (S3.out.later (below_alloc w3 (.cells #[.int .i64 b, .slice s1 t1 v1, .slice s2 t2 v2, .slice s3 t3 v3] 26)))
          have Q3' := Lib.hid (Q3.out.later (below_alloc w3 (.cells #[.int .i64 b, .slice s1 t1 v1, .slice s2 t2 v2, .slice s3 t3 v3] 26)))
          have CV := Lib.hid (tick_any _ x _ S3'.out b wb (show ¬ b < x.clock by have := HAB.out; have := GA.out.1; omega) (by have := GB.out; omega) (by omega))
          go_wp2_with fail
          (with_reducible refine CV.out.mono ?_)
          rintro e w4 ⟨cs4, he, hs4, hb4⟩
          rw [show Array.mk cs4 = cs4.toArray from rfl] at he
          have hs4c := hs4
          obtain ⟨_, _, _, rfl, _, ⟨f1, g1, h1, rfl, _⟩, ⟨f2, g2, h2, rfl, _⟩, ⟨f3, g3, h3, rfl, _⟩⟩ := hs4
          have V4 := Lib.hid (show rState w4 [.int .i64 b, .slice f1 g1 h1, .slice f2 g2 h2, .slice f3 g3 h3] (x.tick b) from hs4c)
          clear hs4c
          simp only [StateD.tick] at he
          subst he
          have kS4 : ∀ j, World.cell? w4 ⟨w.heap.size, j, none⟩ = World.cell? (w.alloc (.cells #[.int .i64 x.clock, .slice o1 n1 c1, .slice o2 n2 c2, .slice o3 n3 c3] 26)) ⟨w.heap.size, j, none⟩ := fun j => (hb4.cell (by have := zS3; simp; omega)).trans ((World.cell?_alloc_lt w3 _ _ zS3).trans (kS3 j))
          have zS4 : w.heap.size < w4.heap.size := Nat.lt_of_lt_of_le (Nat.lt_of_lt_of_le zS3 (by simp)) hb4.size
          have kT4 : ∀ j, World.cell? w4 ⟨w2.heap.size, j, none⟩ = World.cell? (w2.alloc (.cells #[.int .i64 a, .slice p1 q1 r1, .slice p2 q2 r2, .slice p3 q3 r3] 26)) ⟨w2.heap.size, j, none⟩ := fun j => (hb4.cell (by have := zT3; simp; omega)).trans ((World.cell?_alloc_lt w3 _ _ zT3).trans (kT3 j))
          have zT4 : w2.heap.size < w4.heap.size := Nat.lt_of_lt_of_le (Nat.lt_of_lt_of_le zT3 (by simp)) hb4.size
          have kU4 : ∀ j, World.cell? w4 ⟨w3.heap.size, j, none⟩ = World.cell? (w3.alloc (.cells #[.int .i64 b, .slice s1 t1 v1, .slice s2 t2 v2, .slice s3 t3 v3] 26)) ⟨w3.heap.size, j, none⟩ := fun j => hb4.cell (by simp)
          have zU4 : w3.heap.size < w4.heap.size := Nat.lt_of_lt_of_le (by simp) hb4.size
          have HB4 := Lib.hid (below_call HB3'.out hb4)
          have S4 := Lib.hid (S3'.out.later hb4)
          have Q4 := Lib.hid (Q3'.out.later hb4)
          clear hb4 kS3 zS3 kT3 zT3
          have HB4' := Lib.hid (HB4.out.alloc HB4.out.size (.cells #[.int .i64 b, .slice f1 g1 h1, .slice f2 g2 h2, .slice f3 g3 h3] 26))
          have V4' := Lib.hid (V4.out.later (below_alloc w4 (.cells #[.int .i64 b, .slice f1 g1 h1, .slice f2 g2 h2, .slice f3 g3 h3] 26)))
          have Q4' := Lib.hid (Q4.out.later (below_alloc w4 (.cells #[.int .i64 b, .slice f1 g1 h1, .slice f2 g2 h2, .slice f3 g3 h3] 26)))
          go_wp2_with fail
          (with_reducible refine (CF.out _).mono ?_)
          rintro e w5 ⟨rfl, hb5⟩
          have kS5 : ∀ j, World.cell? w5 ⟨w.heap.size, j, none⟩ = World.cell? (w.alloc (.cells #[.int .i64 x.clock, .slice o1 n1 c1, .slice o2 n2 c2, .slice o3 n3 c3] 26)) ⟨w.heap.size, j, none⟩ := fun j => (hb5.cell (by have := zS4; simp; omega)).trans ((World.cell?_alloc_lt w4 _ _ zS4).trans (kS4 j))
          have zS5 : w.heap.size < w5.heap.size := Nat.lt_of_lt_of_le (Nat.lt_of_lt_of_le zS4 (by simp)) hb5.size
          have kT5 : ∀ j, World.cell? w5 ⟨w2.heap.size, j, none⟩ = World.cell? (w2.alloc (.cells #[.int .i64 a, .slice p1 q1 r1, .slice p2 q2 r2, .slice p3 q3 r3] 26)) ⟨w2.heap.size, j, none⟩ := fun j => (hb5.cell (by have := zT4; simp; omega)).trans ((World.cell?_alloc_lt w4 _ _ zT4).trans (kT4 j))
          have zT5 : w2.heap.size < w5.heap.size := Nat.lt_of_lt_of_le (Nat.lt_of_lt_of_le zT4 (by simp)) hb5.size
          have kU5 : ∀ j, World.cell? w5 ⟨w3.heap.size, j, none⟩ = World.cell? (w3.alloc (.cells #[.int .i64 b, .slice s1 t1 v1, .slice s2 t2 v2, .slice s3 t3 v3] 26)) ⟨w3.heap.size, j, none⟩ := fun j => (hb5.cell (by have := zU4; simp; omega)).trans ((World.cell?_alloc_lt w4 _ _ zU4).trans (kU4 j))
          have zU5 : w3.heap.size < w5.heap.size := Nat.lt_of_lt_of_le (Nat.lt_of_lt_of_le zU4 (by simp)) hb5.size
          have kV5 : ∀ j, World.cell? w5 ⟨w4.heap.size, j, none⟩ = World.cell? (w4.alloc (.cells #[.int .i64 b, .slice f1 g1 h1, .slice f2 g2 h2, .slice f3 g3 h3] 26)) ⟨w4.heap.size, j, none⟩ := fun j => hb5.cell (by simp)
          have zV5 : w4.heap.size < w5.heap.size := Nat.lt_of_lt_of_le (by simp) hb5.size
          have HB5 := Lib.hid (below_call HB4'.out hb5)
          have V5 := Lib.hid (V4'.out.later hb5)
          have Q5 := Lib.hid (Q4'.out.later hb5)
          clear hb5 kS4 zS4 kT4 zT4 kU4 zU4
          have CS := Lib.hid (c_t (state_any _ _ (x.tick b) (x.tick b) w5 Q5.out V5.out) rfl)
          have hcount := count_tick HAB.out x.polls
          have hl1 := List.countP_le_length (p := PollD.due b) (l := x.polls)
          rw [List.countP_map] at hcount
          have HE := Lib.hid (show ((x.polls.countP (PollD.due b) : Nat) : Int) = (IntKind.u64).wrap (((x.polls.countP (PollD.due a) : Nat) : Int) + ((x.polls.countP (PollD.due b ∘ PollD.tick a) : Nat) : Int)) by rw [IntKind.wrap_u64]; omega)
          clear hcount hl1
          go_wp2_with fail
          (with_reducible refine CS.out.mono ?_)
          rintro e w6 ⟨rfl, hb6⟩
          have HB6 := Lib.hid (below_call HB5.out hb6)
          clear hb6
          go_wp2_with fail
          go_ret
          refine ⟨?_, HB6.out⟩
          show Ending.returned (Value.bool (((x.polls.countP (PollD.due b) : Nat) : Int) == (IntKind.u64).wrap (((x.polls.countP (PollD.due a) : Nat) : Int) + ((x.polls.countP (PollD.due b ∘ PollD.tick a) : Nat) : Int)))) = _
          rw [← HE.out]
          simp
end Go.Proofs.Ytcleicjgeflbnaa
