/- Walks of the functions that bound records: each answers whether the record is greater than its bounds. No condition but that the arguments read. -/
import Derived.Test.YtcleicjgeflbnaaG3
namespace Go.Proofs.Ytcleicjgeflbnaa
open Go.RowKit Go.ChangeShapes Go.WideShapes Go.Deep

def QueryD.small (x : QueryD) : Prop := x.must.length ≤ 80 ∧ x.may.length ≤ 40 ∧ x.apart.length ≤ 60 ∧ x.prefer.length ≤ 30
def EventD.small (x : EventD) : Prop := x.ex.length ≤ 80 ∧ x.plus.length ≤ 80 ∧ x.changes.length ≤ 80 ∧ x.rule.byMonth.length ≤ 100 ∧ x.rule.byMonthDay.length ≤ 100 ∧ x.rule.byDay.length ≤ 200 ∧ x.rule.bySetPos.length ≤ 500
def SettingsD.small (x : SettingsD) : Prop := x.turns.length ≤ 100 ∧ x.shifts.length ≤ 30 ∧ x.offs.length ≤ 100
def PollD.small (x : PollD) : Prop := x.query.small ∧ x.slots.length ≤ 80 ∧ x.votes.length ≤ 300
def AskD.small (x : AskD) : Prop := x.settings.small ∧ x.event.small ∧ x.query.small ∧ x.cursor.size ≤ 200

theorem ret_nt {p : Prop} (h : p) : Ending.returned (.bool false) = Ending.returned (.bool (!dec p)) := by rw [dec_t h]; rfl
theorem ret_nf {p : Prop} (h : ¬ p) : Ending.returned (.bool true) = Ending.returned (.bool (!dec p)) := by rw [dec_f h]; rfl
theorem n_t {P : Program} {f : FuncId} {args : Array Value} {w : World} {p : Prop} {Q : World → Prop} (h : Calls P f args w fun e w' => e = .returned (.bool (!dec p)) ∧ Q w') (hp : p) : Calls P f args w fun e w' => e = .returned (.bool false) ∧ Q w' := by rw [dec_t hp] at h; exact h
theorem n_f {P : Program} {f : FuncId} {args : Array Value} {w : World} {p : Prop} {Q : World → Prop} (h : Calls P f args w fun e w' => e = .returned (.bool (!dec p)) ∧ Q w') (hp : ¬ p) : Calls P f args w fun e w' => e = .returned (.bool true) ∧ Q w' := by rw [dec_f hp] at h; exact h

set_option maxHeartbeats 8000000 in
theorem greatQuery_any (cs : List Value) (x : QueryD) (w : World) (h : rQuery w cs x) :
    Calls Try.prog 32 #[.agg cs.toArray] w fun e w' => e = .returned (.bool (!dec x.small)) ∧ Below w.heap.size w w' := by
  obtain ⟨m, y, a, p, rfl, _, _, _, _, _, h1, h2, h3, h4⟩ := h
  obtain ⟨o_n1, n1, c_n1, rfl, l_n1, _, _, _⟩ := h1.open; have Ln1 := Lib.hid l_n1; clear l_n1
  obtain ⟨o_n2, n2, c_n2, rfl, l_n2, _, _, _⟩ := h2.open; have Ln2 := Lib.hid l_n2; clear l_n2
  obtain ⟨o_n3, n3, c_n3, rfl, l_n3, _, _, _⟩ := h3.open; have Ln3 := Lib.hid l_n3; clear l_n3
  obtain ⟨o_n4, n4, c_n4, rfl, l_n4, _, _, _⟩ := h4.open; have Ln4 := Lib.hid l_n4; clear l_n4
  try simp only [List.cons_append, List.nil_append]
  by_cases q0 : x.must.length ≤ 80
  · have Q0 := Lib.hid q0; clear q0
    by_cases q1 : x.may.length ≤ 40
    · have Q1 := Lib.hid q1; clear q1
      by_cases q2 : x.apart.length ≤ 60
      · have Q2 := Lib.hid q2; clear q2
        by_cases q3 : x.prefer.length ≤ 30
        · have Q3 := Lib.hid q3; clear q3
          have g0 : ¬ (80 : Int) < (n1 : Int) := by have := Q0.out; have := Ln1.out; omega
          have d0 : decide ((80 : Int) < (n1 : Int)) = false := by exact decide_eq_false g0
          have g1 : ¬ (40 : Int) < (n2 : Int) := by have := Q1.out; have := Ln2.out; omega
          have d1 : decide ((40 : Int) < (n2 : Int)) = false := by exact decide_eq_false g1
          have g2 : ¬ (60 : Int) < (n3 : Int) := by have := Q2.out; have := Ln3.out; omega
          have d2 : decide ((60 : Int) < (n3 : Int)) = false := by exact decide_eq_false g2
          have g3 : ¬ (30 : Int) < (n4 : Int) := by have := Q3.out; have := Ln4.out; omega
          have d3 : decide ((30 : Int) < (n4 : Int)) = false := by exact decide_eq_false g3
          have HB := Lib.hid (fun (o : Obj) => (Below.refl w.heap.size w).alloc (Nat.le_refl _) o)
          go_enter Try.func32, Try.ntmps32
          go_wp2_with fail
          go_ret
          exact ⟨ret_nt ⟨Q0.out, Q1.out, Q2.out, Q3.out⟩, (HB.out _)⟩
        · have Q3 := Lib.hid q3; clear q3
          have g0 : ¬ (80 : Int) < (n1 : Int) := by have := Q0.out; have := Ln1.out; omega
          have d0 : decide ((80 : Int) < (n1 : Int)) = false := by exact decide_eq_false g0
          have g1 : ¬ (40 : Int) < (n2 : Int) := by have := Q1.out; have := Ln2.out; omega
          have d1 : decide ((40 : Int) < (n2 : Int)) = false := by exact decide_eq_false g1
          have g2 : ¬ (60 : Int) < (n3 : Int) := by have := Q2.out; have := Ln3.out; omega
          have d2 : decide ((60 : Int) < (n3 : Int)) = false := by exact decide_eq_false g2
          have g3 : (30 : Int) < (n4 : Int) := by have := Q3.out; have := Ln4.out; omega
          have d3 : decide ((30 : Int) < (n4 : Int)) = true := by exact decide_eq_true g3
          have HB := Lib.hid (fun (o : Obj) => (Below.refl w.heap.size w).alloc (Nat.le_refl _) o)
          go_enter Try.func32, Try.ntmps32
          go_wp2_with fail
          go_ret
          exact ⟨ret_nf (fun e => Q3.out e.2.2.2), (HB.out _)⟩
      · have Q2 := Lib.hid q2; clear q2
        have g0 : ¬ (80 : Int) < (n1 : Int) := by have := Q0.out; have := Ln1.out; omega
        have d0 : decide ((80 : Int) < (n1 : Int)) = false := by exact decide_eq_false g0
        have g1 : ¬ (40 : Int) < (n2 : Int) := by have := Q1.out; have := Ln2.out; omega
        have d1 : decide ((40 : Int) < (n2 : Int)) = false := by exact decide_eq_false g1
        have g2 : (60 : Int) < (n3 : Int) := by have := Q2.out; have := Ln3.out; omega
        have d2 : decide ((60 : Int) < (n3 : Int)) = true := by exact decide_eq_true g2
        have HB := Lib.hid (fun (o : Obj) => (Below.refl w.heap.size w).alloc (Nat.le_refl _) o)
        go_enter Try.func32, Try.ntmps32
        go_wp2_with fail
        go_ret
        exact ⟨ret_nf (fun e => Q2.out e.2.2.1), (HB.out _)⟩
    · have Q1 := Lib.hid q1; clear q1
      have g0 : ¬ (80 : Int) < (n1 : Int) := by have := Q0.out; have := Ln1.out; omega
      have d0 : decide ((80 : Int) < (n1 : Int)) = false := by exact decide_eq_false g0
      have g1 : (40 : Int) < (n2 : Int) := by have := Q1.out; have := Ln2.out; omega
      have d1 : decide ((40 : Int) < (n2 : Int)) = true := by exact decide_eq_true g1
      have HB := Lib.hid (fun (o : Obj) => (Below.refl w.heap.size w).alloc (Nat.le_refl _) o)
      go_enter Try.func32, Try.ntmps32
      go_wp2_with fail
      go_ret
      exact ⟨ret_nf (fun e => Q1.out e.2.1), (HB.out _)⟩
  · have Q0 := Lib.hid q0; clear q0
    have g0 : (80 : Int) < (n1 : Int) := by have := Q0.out; have := Ln1.out; omega
    have d0 : decide ((80 : Int) < (n1 : Int)) = true := by exact decide_eq_true g0
    have HB := Lib.hid (fun (o : Obj) => (Below.refl w.heap.size w).alloc (Nat.le_refl _) o)
    go_enter Try.func32, Try.ntmps32
    go_wp2_with fail
    go_ret
    exact ⟨ret_nf (fun e => Q0.out e.1), (HB.out _)⟩

set_option maxHeartbeats 8000000 in
theorem greatEvent_any (cs : List Value) (x : EventD) (w : World) (h : rEvent w cs x) :
    Calls Try.prog 30 #[.agg cs.toArray] w fun e w' => e = .returned (.bool (!dec x.small)) ∧ Below w.heap.size w w' := by
  obtain ⟨r, e, p, c, rfl, _, _, ⟨m, d, y, s, rfl, _, _, _, _, _, h4, h5, h6, h7⟩, h1, h2, h3⟩ := h
  obtain ⟨o_n1, n1, c_n1, rfl, l_n1, _, _, _⟩ := h1.open; have Ln1 := Lib.hid l_n1; clear l_n1
  obtain ⟨o_n2, n2, c_n2, rfl, l_n2, _, _, _⟩ := h2.open; have Ln2 := Lib.hid l_n2; clear l_n2
  obtain ⟨o_n3, n3, c_n3, rfl, l_n3, _, _, _⟩ := h3.open; have Ln3 := Lib.hid l_n3; clear l_n3
  obtain ⟨o_n4, n4, c_n4, rfl, l_n4, _, _, _⟩ := h4.open; have Ln4 := Lib.hid l_n4; clear l_n4
  obtain ⟨o_n5, n5, c_n5, rfl, l_n5, _, _, _⟩ := h5.open; have Ln5 := Lib.hid l_n5; clear l_n5
  obtain ⟨o_n6, n6, c_n6, rfl, l_n6, _, _, _⟩ := h6.open; have Ln6 := Lib.hid l_n6; clear l_n6
  obtain ⟨o_n7, n7, c_n7, rfl, l_n7, _, _, _⟩ := h7.open; have Ln7 := Lib.hid l_n7; clear l_n7
  try simp only [List.cons_append, List.nil_append]
  by_cases q0 : x.ex.length ≤ 80
  · have Q0 := Lib.hid q0; clear q0
    by_cases q1 : x.plus.length ≤ 80
    · have Q1 := Lib.hid q1; clear q1
      by_cases q2 : x.changes.length ≤ 80
      · have Q2 := Lib.hid q2; clear q2
        by_cases q3 : x.rule.byMonth.length ≤ 100
        · have Q3 := Lib.hid q3; clear q3
          by_cases q4 : x.rule.byMonthDay.length ≤ 100
          · have Q4 := Lib.hid q4; clear q4
            by_cases q5 : x.rule.byDay.length ≤ 200
            · have Q5 := Lib.hid q5; clear q5
              by_cases q6 : x.rule.bySetPos.length ≤ 500
              · have Q6 := Lib.hid q6; clear q6
                have g0 : ¬ (80 : Int) < (n1 : Int) := by have := Q0.out; have := Ln1.out; omega
                have d0 : decide ((80 : Int) < (n1 : Int)) = false := by exact decide_eq_false g0
                have g1 : ¬ (80 : Int) < (n2 : Int) := by have := Q1.out; have := Ln2.out; omega
                have d1 : decide ((80 : Int) < (n2 : Int)) = false := by exact decide_eq_false g1
                have g2 : ¬ (80 : Int) < (n3 : Int) := by have := Q2.out; have := Ln3.out; omega
                have d2 : decide ((80 : Int) < (n3 : Int)) = false := by exact decide_eq_false g2
                have g3 : ¬ (100 : Int) < (n4 : Int) := by have := Q3.out; have := Ln4.out; omega
                have d3 : decide ((100 : Int) < (n4 : Int)) = false := by exact decide_eq_false g3
                have g4 : ¬ (100 : Int) < (n5 : Int) := by have := Q4.out; have := Ln5.out; omega
                have d4 : decide ((100 : Int) < (n5 : Int)) = false := by exact decide_eq_false g4
                have g5 : ¬ (200 : Int) < (n6 : Int) := by have := Q5.out; have := Ln6.out; omega
                have d5 : decide ((200 : Int) < (n6 : Int)) = false := by exact decide_eq_false g5
                have g6 : ¬ (500 : Int) < (n7 : Int) := by have := Q6.out; have := Ln7.out; omega
                have d6 : decide ((500 : Int) < (n7 : Int)) = false := by exact decide_eq_false g6
                have HB := Lib.hid (fun (o : Obj) => (Below.refl w.heap.size w).alloc (Nat.le_refl _) o)
                go_enter Try.func30, Try.ntmps30
                go_wp2_with fail
                go_ret
                exact ⟨ret_nt ⟨Q0.out, Q1.out, Q2.out, Q3.out, Q4.out, Q5.out, Q6.out⟩, (HB.out _)⟩
              · have Q6 := Lib.hid q6; clear q6
                have g0 : ¬ (80 : Int) < (n1 : Int) := by have := Q0.out; have := Ln1.out; omega
                have d0 : decide ((80 : Int) < (n1 : Int)) = false := by exact decide_eq_false g0
                have g1 : ¬ (80 : Int) < (n2 : Int) := by have := Q1.out; have := Ln2.out; omega
                have d1 : decide ((80 : Int) < (n2 : Int)) = false := by exact decide_eq_false g1
                have g2 : ¬ (80 : Int) < (n3 : Int) := by have := Q2.out; have := Ln3.out; omega
                have d2 : decide ((80 : Int) < (n3 : Int)) = false := by exact decide_eq_false g2
                have g3 : ¬ (100 : Int) < (n4 : Int) := by have := Q3.out; have := Ln4.out; omega
                have d3 : decide ((100 : Int) < (n4 : Int)) = false := by exact decide_eq_false g3
                have g4 : ¬ (100 : Int) < (n5 : Int) := by have := Q4.out; have := Ln5.out; omega
                have d4 : decide ((100 : Int) < (n5 : Int)) = false := by exact decide_eq_false g4
                have g5 : ¬ (200 : Int) < (n6 : Int) := by have := Q5.out; have := Ln6.out; omega
                have d5 : decide ((200 : Int) < (n6 : Int)) = false := by exact decide_eq_false g5
                have g6 : (500 : Int) < (n7 : Int) := by have := Q6.out; have := Ln7.out; omega
                have d6 : decide ((500 : Int) < (n7 : Int)) = true := by exact decide_eq_true g6
                have HB := Lib.hid (fun (o : Obj) => (Below.refl w.heap.size w).alloc (Nat.le_refl _) o)
                go_enter Try.func30, Try.ntmps30
                go_wp2_with fail
                go_ret
                exact ⟨ret_nf (fun e => Q6.out e.2.2.2.2.2.2), (HB.out _)⟩
            · have Q5 := Lib.hid q5; clear q5
              have g0 : ¬ (80 : Int) < (n1 : Int) := by have := Q0.out; have := Ln1.out; omega
              have d0 : decide ((80 : Int) < (n1 : Int)) = false := by exact decide_eq_false g0
              have g1 : ¬ (80 : Int) < (n2 : Int) := by have := Q1.out; have := Ln2.out; omega
              have d1 : decide ((80 : Int) < (n2 : Int)) = false := by exact decide_eq_false g1
              have g2 : ¬ (80 : Int) < (n3 : Int) := by have := Q2.out; have := Ln3.out; omega
              have d2 : decide ((80 : Int) < (n3 : Int)) = false := by exact decide_eq_false g2
              have g3 : ¬ (100 : Int) < (n4 : Int) := by have := Q3.out; have := Ln4.out; omega
              have d3 : decide ((100 : Int) < (n4 : Int)) = false := by exact decide_eq_false g3
              have g4 : ¬ (100 : Int) < (n5 : Int) := by have := Q4.out; have := Ln5.out; omega
              have d4 : decide ((100 : Int) < (n5 : Int)) = false := by exact decide_eq_false g4
              have g5 : (200 : Int) < (n6 : Int) := by have := Q5.out; have := Ln6.out; omega
              have d5 : decide ((200 : Int) < (n6 : Int)) = true := by exact decide_eq_true g5
              have HB := Lib.hid (fun (o : Obj) => (Below.refl w.heap.size w).alloc (Nat.le_refl _) o)
              go_enter Try.func30, Try.ntmps30
              go_wp2_with fail
              go_ret
              exact ⟨ret_nf (fun e => Q5.out e.2.2.2.2.2.1), (HB.out _)⟩
          · have Q4 := Lib.hid q4; clear q4
            have g0 : ¬ (80 : Int) < (n1 : Int) := by have := Q0.out; have := Ln1.out; omega
            have d0 : decide ((80 : Int) < (n1 : Int)) = false := by exact decide_eq_false g0
            have g1 : ¬ (80 : Int) < (n2 : Int) := by have := Q1.out; have := Ln2.out; omega
            have d1 : decide ((80 : Int) < (n2 : Int)) = false := by exact decide_eq_false g1
            have g2 : ¬ (80 : Int) < (n3 : Int) := by have := Q2.out; have := Ln3.out; omega
            have d2 : decide ((80 : Int) < (n3 : Int)) = false := by exact decide_eq_false g2
            have g3 : ¬ (100 : Int) < (n4 : Int) := by have := Q3.out; have := Ln4.out; omega
            have d3 : decide ((100 : Int) < (n4 : Int)) = false := by exact decide_eq_false g3
            have g4 : (100 : Int) < (n5 : Int) := by have := Q4.out; have := Ln5.out; omega
            have d4 : decide ((100 : Int) < (n5 : Int)) = true := by exact decide_eq_true g4
            have HB := Lib.hid (fun (o : Obj) => (Below.refl w.heap.size w).alloc (Nat.le_refl _) o)
            go_enter Try.func30, Try.ntmps30
            go_wp2_with fail
            go_ret
            exact ⟨ret_nf (fun e => Q4.out e.2.2.2.2.1), (HB.out _)⟩
        · have Q3 := Lib.hid q3; clear q3
          have g0 : ¬ (80 : Int) < (n1 : Int) := by have := Q0.out; have := Ln1.out; omega
          have d0 : decide ((80 : Int) < (n1 : Int)) = false := by exact decide_eq_false g0
          have g1 : ¬ (80 : Int) < (n2 : Int) := by have := Q1.out; have := Ln2.out; omega
          have d1 : decide ((80 : Int) < (n2 : Int)) = false := by exact decide_eq_false g1
          have g2 : ¬ (80 : Int) < (n3 : Int) := by have := Q2.out; have := Ln3.out; omega
          have d2 : decide ((80 : Int) < (n3 : Int)) = false := by exact decide_eq_false g2
          have g3 : (100 : Int) < (n4 : Int) := by have := Q3.out; have := Ln4.out; omega
          have d3 : decide ((100 : Int) < (n4 : Int)) = true := by exact decide_eq_true g3
          have HB := Lib.hid (fun (o : Obj) => (Below.refl w.heap.size w).alloc (Nat.le_refl _) o)
          go_enter Try.func30, Try.ntmps30
          go_wp2_with fail
          go_ret
          exact ⟨ret_nf (fun e => Q3.out e.2.2.2.1), (HB.out _)⟩
      · have Q2 := Lib.hid q2; clear q2
        have g0 : ¬ (80 : Int) < (n1 : Int) := by have := Q0.out; have := Ln1.out; omega
        have d0 : decide ((80 : Int) < (n1 : Int)) = false := by exact decide_eq_false g0
        have g1 : ¬ (80 : Int) < (n2 : Int) := by have := Q1.out; have := Ln2.out; omega
        have d1 : decide ((80 : Int) < (n2 : Int)) = false := by exact decide_eq_false g1
        have g2 : (80 : Int) < (n3 : Int) := by have := Q2.out; have := Ln3.out; omega
        have d2 : decide ((80 : Int) < (n3 : Int)) = true := by exact decide_eq_true g2
        have HB := Lib.hid (fun (o : Obj) => (Below.refl w.heap.size w).alloc (Nat.le_refl _) o)
        go_enter Try.func30, Try.ntmps30
        go_wp2_with fail
        go_ret
        exact ⟨ret_nf (fun e => Q2.out e.2.2.1), (HB.out _)⟩
    · have Q1 := Lib.hid q1; clear q1
      have g0 : ¬ (80 : Int) < (n1 : Int) := by have := Q0.out; have := Ln1.out; omega
      have d0 : decide ((80 : Int) < (n1 : Int)) = false := by exact decide_eq_false g0
      have g1 : (80 : Int) < (n2 : Int) := by have := Q1.out; have := Ln2.out; omega
      have d1 : decide ((80 : Int) < (n2 : Int)) = true := by exact decide_eq_true g1
      have HB := Lib.hid (fun (o : Obj) => (Below.refl w.heap.size w).alloc (Nat.le_refl _) o)
      go_enter Try.func30, Try.ntmps30
      go_wp2_with fail
      go_ret
      exact ⟨ret_nf (fun e => Q1.out e.2.1), (HB.out _)⟩
  · have Q0 := Lib.hid q0; clear q0
    have g0 : (80 : Int) < (n1 : Int) := by have := Q0.out; have := Ln1.out; omega
    have d0 : decide ((80 : Int) < (n1 : Int)) = true := by exact decide_eq_true g0
    have HB := Lib.hid (fun (o : Obj) => (Below.refl w.heap.size w).alloc (Nat.le_refl _) o)
    go_enter Try.func30, Try.ntmps30
    go_wp2_with fail
    go_ret
    exact ⟨ret_nf (fun e => Q0.out e.1), (HB.out _)⟩

set_option maxHeartbeats 8000000 in
theorem greatSettings_any (cs : List Value) (x : SettingsD) (w : World) (h : rSettings w cs x) :
    Calls Try.prog 29 #[.agg cs.toArray] w fun e w' => e = .returned (.bool (!dec x.small)) ∧ Below w.heap.size w w' := by
  obtain ⟨t, h, o, rfl, _, _, _, h1, h2, h3⟩ := h
  obtain ⟨o_n1, n1, c_n1, rfl, l_n1, _, _, _⟩ := h1.open; have Ln1 := Lib.hid l_n1; clear l_n1
  obtain ⟨o_n2, n2, c_n2, rfl, l_n2, _, _, _⟩ := h2.open; have Ln2 := Lib.hid l_n2; clear l_n2
  obtain ⟨o_n3, n3, c_n3, rfl, l_n3, _, _, _⟩ := h3.open; have Ln3 := Lib.hid l_n3; clear l_n3
  try simp only [List.cons_append, List.nil_append]
  by_cases q0 : x.turns.length ≤ 100
  · have Q0 := Lib.hid q0; clear q0
    by_cases q1 : x.shifts.length ≤ 30
    · have Q1 := Lib.hid q1; clear q1
      by_cases q2 : x.offs.length ≤ 100
      · have Q2 := Lib.hid q2; clear q2
        have g0 : ¬ (100 : Int) < (n1 : Int) := by have := Q0.out; have := Ln1.out; omega
        have d0 : decide ((100 : Int) < (n1 : Int)) = false := by exact decide_eq_false g0
        have g1 : ¬ (30 : Int) < (n2 : Int) := by have := Q1.out; have := Ln2.out; omega
        have d1 : decide ((30 : Int) < (n2 : Int)) = false := by exact decide_eq_false g1
        have g2 : ¬ (100 : Int) < (n3 : Int) := by have := Q2.out; have := Ln3.out; omega
        have d2 : decide ((100 : Int) < (n3 : Int)) = false := by exact decide_eq_false g2
        have HB := Lib.hid (fun (o : Obj) => (Below.refl w.heap.size w).alloc (Nat.le_refl _) o)
        go_enter Try.func29, Try.ntmps29
        go_wp2_with fail
        go_ret
        exact ⟨ret_nt ⟨Q0.out, Q1.out, Q2.out⟩, (HB.out _)⟩
      · have Q2 := Lib.hid q2; clear q2
        have g0 : ¬ (100 : Int) < (n1 : Int) := by have := Q0.out; have := Ln1.out; omega
        have d0 : decide ((100 : Int) < (n1 : Int)) = false := by exact decide_eq_false g0
        have g1 : ¬ (30 : Int) < (n2 : Int) := by have := Q1.out; have := Ln2.out; omega
        have d1 : decide ((30 : Int) < (n2 : Int)) = false := by exact decide_eq_false g1
        have g2 : (100 : Int) < (n3 : Int) := by have := Q2.out; have := Ln3.out; omega
        have d2 : decide ((100 : Int) < (n3 : Int)) = true := by exact decide_eq_true g2
        have HB := Lib.hid (fun (o : Obj) => (Below.refl w.heap.size w).alloc (Nat.le_refl _) o)
        go_enter Try.func29, Try.ntmps29
        go_wp2_with fail
        go_ret
        exact ⟨ret_nf (fun e => Q2.out e.2.2), (HB.out _)⟩
    · have Q1 := Lib.hid q1; clear q1
      have g0 : ¬ (100 : Int) < (n1 : Int) := by have := Q0.out; have := Ln1.out; omega
      have d0 : decide ((100 : Int) < (n1 : Int)) = false := by exact decide_eq_false g0
      have g1 : (30 : Int) < (n2 : Int) := by have := Q1.out; have := Ln2.out; omega
      have d1 : decide ((30 : Int) < (n2 : Int)) = true := by exact decide_eq_true g1
      have HB := Lib.hid (fun (o : Obj) => (Below.refl w.heap.size w).alloc (Nat.le_refl _) o)
      go_enter Try.func29, Try.ntmps29
      go_wp2_with fail
      go_ret
      exact ⟨ret_nf (fun e => Q1.out e.2.1), (HB.out _)⟩
  · have Q0 := Lib.hid q0; clear q0
    have g0 : (100 : Int) < (n1 : Int) := by have := Q0.out; have := Ln1.out; omega
    have d0 : decide ((100 : Int) < (n1 : Int)) = true := by exact decide_eq_true g0
    have HB := Lib.hid (fun (o : Obj) => (Below.refl w.heap.size w).alloc (Nat.le_refl _) o)
    go_enter Try.func29, Try.ntmps29
    go_wp2_with fail
    go_ret
    exact ⟨ret_nf (fun e => Q0.out e.1), (HB.out _)⟩

set_option maxHeartbeats 8000000 in
theorem greatPoll_any (cs : List Value) (x : PollD) (w : World) (h : rPoll w cs x) :
    Calls Try.prog 31 #[.agg cs.toArray] w fun e w' => e = .returned (.bool (!dec x.small)) ∧ Below w.heap.size w w' := by
  obtain ⟨q, s, v, rfl, _, _, _, _, _, hq, h1, h2⟩ := h
  obtain ⟨o_n1, n1, c_n1, rfl, l_n1, _, _, _⟩ := h1.open; have Ln1 := Lib.hid l_n1; clear l_n1
  obtain ⟨o_n2, n2, c_n2, rfl, l_n2, _, _, _⟩ := h2.open; have Ln2 := Lib.hid l_n2; clear l_n2
  have R_query := Lib.hid hq
  obtain ⟨vm, vy, va, vp, rfl, _⟩ := hq
  try simp only [List.cons_append, List.nil_append]
  by_cases q0 : x.query.small
  · have Q0 := Lib.hid q0; clear q0
    by_cases q1 : x.slots.length ≤ 80
    · have Q1 := Lib.hid q1; clear q1
      by_cases q2 : x.votes.length ≤ 300
      · have Q2 := Lib.hid q2; clear q2
        have C0 := Lib.hid (fun (W : World) (hb : Below w.heap.size w W) => n_t (greatQuery_any _ x.query W (R_query.out.later hb)) Q0.out)
        have g1 : ¬ (80 : Int) < (n1 : Int) := by have := Q1.out; have := Ln1.out; omega
        have d1 : decide ((80 : Int) < (n1 : Int)) = false := by exact decide_eq_false g1
        have g2 : ¬ (300 : Int) < (n2 : Int) := by have := Q2.out; have := Ln2.out; omega
        have d2 : decide ((300 : Int) < (n2 : Int)) = false := by exact decide_eq_false g2
        try simp only [List.cons_append, List.nil_append] at C0
        have HB := Lib.hid (fun (o : Obj) => (Below.refl w.heap.size w).alloc (Nat.le_refl _) o)
        go_enter Try.func31, Try.ntmps31
        go_wp2_with fail
        (with_reducible refine (C0.out _ ((HB.out _))).mono ?_)
        rintro e w0 ⟨rfl, hb_0⟩
        have kA_0 : ∀ j, World.cell? w0 ⟨w.heap.size, j, none⟩ = _ := fun j => hb_0.cell (by simp)
        have z_0 : w.heap.size < w0.heap.size := Nat.lt_of_lt_of_le (by simp) hb_0.size
        have HBw0 := Lib.hid (below_call (HB.out _) hb_0)
        clear hb_0
        go_wp2_with fail
        go_ret
        exact ⟨ret_nt ⟨Q0.out, Q1.out, Q2.out⟩, HBw0.out⟩
      · have Q2 := Lib.hid q2; clear q2
        have C0 := Lib.hid (fun (W : World) (hb : Below w.heap.size w W) => n_t (greatQuery_any _ x.query W (R_query.out.later hb)) Q0.out)
        have g1 : ¬ (80 : Int) < (n1 : Int) := by have := Q1.out; have := Ln1.out; omega
        have d1 : decide ((80 : Int) < (n1 : Int)) = false := by exact decide_eq_false g1
        have g2 : (300 : Int) < (n2 : Int) := by have := Q2.out; have := Ln2.out; omega
        have d2 : decide ((300 : Int) < (n2 : Int)) = true := by exact decide_eq_true g2
        try simp only [List.cons_append, List.nil_append] at C0
        have HB := Lib.hid (fun (o : Obj) => (Below.refl w.heap.size w).alloc (Nat.le_refl _) o)
        go_enter Try.func31, Try.ntmps31
        go_wp2_with fail
        (with_reducible refine (C0.out _ ((HB.out _))).mono ?_)
        rintro e w0 ⟨rfl, hb_0⟩
        have kA_0 : ∀ j, World.cell? w0 ⟨w.heap.size, j, none⟩ = _ := fun j => hb_0.cell (by simp)
        have z_0 : w.heap.size < w0.heap.size := Nat.lt_of_lt_of_le (by simp) hb_0.size
        have HBw0 := Lib.hid (below_call (HB.out _) hb_0)
        clear hb_0
        go_wp2_with fail
        go_ret
        exact ⟨ret_nf (fun e => Q2.out e.2.2), HBw0.out⟩
    · have Q1 := Lib.hid q1; clear q1
      have C0 := Lib.hid (fun (W : World) (hb : Below w.heap.size w W) => n_t (greatQuery_any _ x.query W (R_query.out.later hb)) Q0.out)
      have g1 : (80 : Int) < (n1 : Int) := by have := Q1.out; have := Ln1.out; omega
      have d1 : decide ((80 : Int) < (n1 : Int)) = true := by exact decide_eq_true g1
      try simp only [List.cons_append, List.nil_append] at C0
      have HB := Lib.hid (fun (o : Obj) => (Below.refl w.heap.size w).alloc (Nat.le_refl _) o)
      go_enter Try.func31, Try.ntmps31
      go_wp2_with fail
      (with_reducible refine (C0.out _ ((HB.out _))).mono ?_)
      rintro e w0 ⟨rfl, hb_0⟩
      have kA_0 : ∀ j, World.cell? w0 ⟨w.heap.size, j, none⟩ = _ := fun j => hb_0.cell (by simp)
      have z_0 : w.heap.size < w0.heap.size := Nat.lt_of_lt_of_le (by simp) hb_0.size
      have HBw0 := Lib.hid (below_call (HB.out _) hb_0)
      clear hb_0
      go_wp2_with fail
      go_ret
      exact ⟨ret_nf (fun e => Q1.out e.2.1), HBw0.out⟩
  · have Q0 := Lib.hid q0; clear q0
    have C0 := Lib.hid (fun (W : World) (hb : Below w.heap.size w W) => n_f (greatQuery_any _ x.query W (R_query.out.later hb)) Q0.out)
    try simp only [List.cons_append, List.nil_append] at C0
    have HB := Lib.hid (fun (o : Obj) => (Below.refl w.heap.size w).alloc (Nat.le_refl _) o)
    go_enter Try.func31, Try.ntmps31
    go_wp2_with fail
    (with_reducible refine (C0.out _ ((HB.out _))).mono ?_)
    rintro e w0 ⟨rfl, hb_0⟩
    have z_0 : w.heap.size < w0.heap.size := Nat.lt_of_lt_of_le (by simp) hb_0.size
    have HBw0 := Lib.hid (below_call (HB.out _) hb_0)
    clear hb_0
    go_wp2_with fail
    go_ret
    exact ⟨ret_nf (fun e => Q0.out e.1), HBw0.out⟩

set_option maxHeartbeats 8000000 in
theorem greatAsk_any (cs : List Value) (x : AskD) (w : World) (h : rAsk w cs x) :
    Calls Try.prog 12 #[.agg cs.toArray] w fun e w' => e = .returned (.bool (!dec x.small)) ∧ Below w.heap.size w w' := by
  obtain ⟨s, e, q, rfl, _, _, _, _, _, _, _, _, _, _, hs, he, hq⟩ := h
  have R_settings := Lib.hid hs; have R_event := Lib.hid he; have R_query := Lib.hid hq
  obtain ⟨st, sh, so, rfl, _⟩ := hs
  obtain ⟨er, ee, ep, ec, rfl, _, _, ⟨rm, rd, ry, rs, rfl, _⟩, _⟩ := he
  obtain ⟨vm, vy, va, vp, rfl, _⟩ := hq
  try simp only [List.cons_append, List.nil_append]
  by_cases q0 : x.settings.small
  · have Q0 := Lib.hid q0; clear q0
    by_cases q1 : x.event.small
    · have Q1 := Lib.hid q1; clear q1
      by_cases q2 : x.query.small
      · have Q2 := Lib.hid q2; clear q2
        by_cases q3 : x.cursor.size ≤ 200
        · have Q3 := Lib.hid q3; clear q3
          have C0 := Lib.hid (fun (W : World) (hb : Below w.heap.size w W) => n_t (greatSettings_any _ x.settings W (R_settings.out.later hb)) Q0.out)
          have C1 := Lib.hid (fun (W : World) (hb : Below w.heap.size w W) => n_t (greatEvent_any _ x.event W (R_event.out.later hb)) Q1.out)
          have C2 := Lib.hid (fun (W : World) (hb : Below w.heap.size w W) => n_t (greatQuery_any _ x.query W (R_query.out.later hb)) Q2.out)
          have g3 : ¬ (200 : Int) < ((x.cursor.size : Nat) : Int) := by have := Q3.out; omega
          have d3 : decide ((200 : Int) < ((x.cursor.size : Nat) : Int)) = false := by exact decide_eq_false g3
          try simp only [List.cons_append, List.nil_append] at C0 C1 C2
          have HB := Lib.hid (fun (o : Obj) => (Below.refl w.heap.size w).alloc (Nat.le_refl _) o)
          go_enter Try.func12, Try.ntmps12
          go_wp2_with fail
          (with_reducible refine (C0.out _ ((HB.out _))).mono ?_)
          rintro e w0 ⟨rfl, hb_0⟩
          have kA_0 : ∀ j, World.cell? w0 ⟨w.heap.size, j, none⟩ = _ := fun j => hb_0.cell (by simp)
          have z_0 : w.heap.size < w0.heap.size := Nat.lt_of_lt_of_le (by simp) hb_0.size
          have HBw0 := Lib.hid (below_call (HB.out _) hb_0)
          clear hb_0
          go_wp2_with fail
          (with_reducible refine (C1.out _ (HBw0.out)).mono ?_)
          rintro e w1 ⟨rfl, hb_1⟩
          have kA_1 : ∀ j, World.cell? w1 ⟨w.heap.size, j, none⟩ = _ := fun j => hb_1.cell (by assumption)
          have z_1 : w.heap.size < w1.heap.size := Nat.lt_of_lt_of_le (by assumption) hb_1.size
          have HBw1 := Lib.hid (below_call HBw0.out hb_1)
          clear hb_1
          go_wp2_with fail
          (with_reducible refine (C2.out _ (HBw1.out)).mono ?_)
          rintro e w2 ⟨rfl, hb_2⟩
          have kA_2 : ∀ j, World.cell? w2 ⟨w.heap.size, j, none⟩ = _ := fun j => hb_2.cell (by assumption)
          have z_2 : w.heap.size < w2.heap.size := Nat.lt_of_lt_of_le (by assumption) hb_2.size
          have HBw2 := Lib.hid (below_call HBw1.out hb_2)
          clear hb_2
          go_wp2_with fail
          go_ret
          exact ⟨ret_nt ⟨Q0.out, Q1.out, Q2.out, Q3.out⟩, HBw2.out⟩
        · have Q3 := Lib.hid q3; clear q3
          have C0 := Lib.hid (fun (W : World) (hb : Below w.heap.size w W) => n_t (greatSettings_any _ x.settings W (R_settings.out.later hb)) Q0.out)
          have C1 := Lib.hid (fun (W : World) (hb : Below w.heap.size w W) => n_t (greatEvent_any _ x.event W (R_event.out.later hb)) Q1.out)
          have C2 := Lib.hid (fun (W : World) (hb : Below w.heap.size w W) => n_t (greatQuery_any _ x.query W (R_query.out.later hb)) Q2.out)
          have g3 : (200 : Int) < ((x.cursor.size : Nat) : Int) := by have := Q3.out; omega
          have d3 : decide ((200 : Int) < ((x.cursor.size : Nat) : Int)) = true := by exact decide_eq_true g3
          try simp only [List.cons_append, List.nil_append] at C0 C1 C2
          have HB := Lib.hid (fun (o : Obj) => (Below.refl w.heap.size w).alloc (Nat.le_refl _) o)
          go_enter Try.func12, Try.ntmps12
          go_wp2_with fail
          (with_reducible refine (C0.out _ ((HB.out _))).mono ?_)
          rintro e w0 ⟨rfl, hb_0⟩
          have kA_0 : ∀ j, World.cell? w0 ⟨w.heap.size, j, none⟩ = _ := fun j => hb_0.cell (by simp)
          have z_0 : w.heap.size < w0.heap.size := Nat.lt_of_lt_of_le (by simp) hb_0.size
          have HBw0 := Lib.hid (below_call (HB.out _) hb_0)
          clear hb_0
          go_wp2_with fail
          (with_reducible refine (C1.out _ (HBw0.out)).mono ?_)
          rintro e w1 ⟨rfl, hb_1⟩
          have kA_1 : ∀ j, World.cell? w1 ⟨w.heap.size, j, none⟩ = _ := fun j => hb_1.cell (by assumption)
          have z_1 : w.heap.size < w1.heap.size := Nat.lt_of_lt_of_le (by assumption) hb_1.size
          have HBw1 := Lib.hid (below_call HBw0.out hb_1)
          clear hb_1
          go_wp2_with fail
          (with_reducible refine (C2.out _ (HBw1.out)).mono ?_)
          rintro e w2 ⟨rfl, hb_2⟩
          have kA_2 : ∀ j, World.cell? w2 ⟨w.heap.size, j, none⟩ = _ := fun j => hb_2.cell (by assumption)
          have z_2 : w.heap.size < w2.heap.size := Nat.lt_of_lt_of_le (by assumption) hb_2.size
          have HBw2 := Lib.hid (below_call HBw1.out hb_2)
          clear hb_2
          go_wp2_with fail
          go_ret
          exact ⟨ret_nf (fun e => Q3.out e.2.2.2), HBw2.out⟩
      · have Q2 := Lib.hid q2; clear q2
        have C0 := Lib.hid (fun (W : World) (hb : Below w.heap.size w W) => n_t (greatSettings_any _ x.settings W (R_settings.out.later hb)) Q0.out)
        have C1 := Lib.hid (fun (W : World) (hb : Below w.heap.size w W) => n_t (greatEvent_any _ x.event W (R_event.out.later hb)) Q1.out)
        have C2 := Lib.hid (fun (W : World) (hb : Below w.heap.size w W) => n_f (greatQuery_any _ x.query W (R_query.out.later hb)) Q2.out)
        try simp only [List.cons_append, List.nil_append] at C0 C1 C2
        have HB := Lib.hid (fun (o : Obj) => (Below.refl w.heap.size w).alloc (Nat.le_refl _) o)
        go_enter Try.func12, Try.ntmps12
        go_wp2_with fail
        (with_reducible refine (C0.out _ ((HB.out _))).mono ?_)
        rintro e w0 ⟨rfl, hb_0⟩
        have kA_0 : ∀ j, World.cell? w0 ⟨w.heap.size, j, none⟩ = _ := fun j => hb_0.cell (by simp)
        have z_0 : w.heap.size < w0.heap.size := Nat.lt_of_lt_of_le (by simp) hb_0.size
        have HBw0 := Lib.hid (below_call (HB.out _) hb_0)
        clear hb_0
        go_wp2_with fail
        (with_reducible refine (C1.out _ (HBw0.out)).mono ?_)
        rintro e w1 ⟨rfl, hb_1⟩
        have kA_1 : ∀ j, World.cell? w1 ⟨w.heap.size, j, none⟩ = _ := fun j => hb_1.cell (by assumption)
        have z_1 : w.heap.size < w1.heap.size := Nat.lt_of_lt_of_le (by assumption) hb_1.size
        have HBw1 := Lib.hid (below_call HBw0.out hb_1)
        clear hb_1
        go_wp2_with fail
        (with_reducible refine (C2.out _ (HBw1.out)).mono ?_)
        rintro e w2 ⟨rfl, hb_2⟩
        have z_2 : w.heap.size < w2.heap.size := Nat.lt_of_lt_of_le (by assumption) hb_2.size
        have HBw2 := Lib.hid (below_call HBw1.out hb_2)
        clear hb_2
        go_wp2_with fail
        go_ret
        exact ⟨ret_nf (fun e => Q2.out e.2.2.1), HBw2.out⟩
    · have Q1 := Lib.hid q1; clear q1
      have C0 := Lib.hid (fun (W : World) (hb : Below w.heap.size w W) => n_t (greatSettings_any _ x.settings W (R_settings.out.later hb)) Q0.out)
      have C1 := Lib.hid (fun (W : World) (hb : Below w.heap.size w W) => n_f (greatEvent_any _ x.event W (R_event.out.later hb)) Q1.out)
      try simp only [List.cons_append, List.nil_append] at C0 C1
      have HB := Lib.hid (fun (o : Obj) => (Below.refl w.heap.size w).alloc (Nat.le_refl _) o)
      go_enter Try.func12, Try.ntmps12
      go_wp2_with fail
      (with_reducible refine (C0.out _ ((HB.out _))).mono ?_)
      rintro e w0 ⟨rfl, hb_0⟩
      have kA_0 : ∀ j, World.cell? w0 ⟨w.heap.size, j, none⟩ = _ := fun j => hb_0.cell (by simp)
      have z_0 : w.heap.size < w0.heap.size := Nat.lt_of_lt_of_le (by simp) hb_0.size
      have HBw0 := Lib.hid (below_call (HB.out _) hb_0)
      clear hb_0
      go_wp2_with fail
      (with_reducible refine (C1.out _ (HBw0.out)).mono ?_)
      rintro e w1 ⟨rfl, hb_1⟩
      have z_1 : w.heap.size < w1.heap.size := Nat.lt_of_lt_of_le (by assumption) hb_1.size
      have HBw1 := Lib.hid (below_call HBw0.out hb_1)
      clear hb_1
      go_wp2_with fail
      go_ret
      exact ⟨ret_nf (fun e => Q1.out e.2.1), HBw1.out⟩
  · have Q0 := Lib.hid q0; clear q0
    have C0 := Lib.hid (fun (W : World) (hb : Below w.heap.size w W) => n_f (greatSettings_any _ x.settings W (R_settings.out.later hb)) Q0.out)
    try simp only [List.cons_append, List.nil_append] at C0
    have HB := Lib.hid (fun (o : Obj) => (Below.refl w.heap.size w).alloc (Nat.le_refl _) o)
    go_enter Try.func12, Try.ntmps12
    go_wp2_with fail
    (with_reducible refine (C0.out _ ((HB.out _))).mono ?_)
    rintro e w0 ⟨rfl, hb_0⟩
    have z_0 : w.heap.size < w0.heap.size := Nat.lt_of_lt_of_le (by simp) hb_0.size
    have HBw0 := Lib.hid (below_call (HB.out _) hb_0)
    clear hb_0
    go_wp2_with fail
    go_ret
    exact ⟨ret_nf (fun e => Q0.out e.1), HBw0.out⟩
end Go.Proofs.Ytcleicjgeflbnaa
