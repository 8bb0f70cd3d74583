/- Vote, whole: what comes of it, as in plain words. Conditions: the question's cells read, the state's polls and votes rise and are few. -/
import Derived.Test.YtcleicjgeflbnaaG44
import Derived.Test.YtcleicjgeflbnaaG45
import Derived.Test.YtcleicjgeflbnaaG46
import Derived.Test.YtcleicjgeflbnaaG50
import Derived.Test.YtcleicjgeflbnaaG51
import Derived.Test.YtcleicjgeflbnaaG52
import Derived.Test.YtcleicjgeflbnaaG53
import Derived.Test.YtcleicjgeflbnaaG54
import Derived.Test.YtcleicjgeflbnaaG55
namespace Go.Proofs.Ytcleicjgeflbnaa
open Go.RowKit Go.ChangeShapes Go.WideShapes Go.Deep

theorem vote_all (cs : List Value) (A : Array Value) (x : StateD) (a : AskD) (yes : Bool) (N : Nat) (m w : World) (hm : Sub m w) (h : rState m cs x) (ha : AskA A a) (a40 : ∀ h : 40 < A.size, A[40]'h = .bool yes) (o : VoteOk x N) (hN : N ≤ 900) :
    Calls Try.prog 9 #[.agg cs.toArray, .agg A] w fun e w' => ∃ cs' x' n er, e = .returned (.tuple #[.agg (Array.mk cs'), .int .u64 (n : Nat), .int .i64 er]) ∧ VoteR x a.poll a.caller a.slot yes x' n er ∧ StateAt m w.heap.size w' cs' x' ∧ Below w.heap.size w w' := by
  by_cases hex : ∃ (i : Nat) (y : PollD), x.polls[i]? = some y ∧ y.id = a.poll
  · obtain ⟨i, y, hi, hid⟩ := hex
    have q1 := o.q1 i y hi
    have q2 := o.q2 i y hi
    by_cases hu : a.caller ∈ y.query.users
    · by_cases hs : y.state = 1
      · by_cases hrg : 0 ≤ a.slot ∧ a.slot < (y.slots.length : Int)
        · have hvr := o.votes i y hi
          have hvl : y.votes.length ≤ 900 := Nat.le_trans (o.v i y hi) hN
          by_cases hv : (⟨a.caller, a.slot⟩ : VoteD) ∈ y.votes
          · have hF : ∀ j f, PlaceV y.votes ⟨a.caller, a.slot⟩ j f → f = true := fun j f hp => (hp.mem hvr).2 hv
            cases yes with
            | true =>
              refine (vote_same1 cs A x a m w hm h ha o.rise o.few i y hi hid q1 q2 hu hs hrg hvr hvl a40 hF).mono ?_
              rintro e w' ⟨cs', j, rfl, hp, hr, hb⟩
              exact ⟨cs', _, _, 0, rfl, .told i y hi hid hu hs hrg j true hp, hr, hb⟩
            | false =>
              refine (vote_back cs A x a m w hm h ha o.rise o.few i y hi hid q1 q2 hu hs hrg hvr hvl a40 hF).mono ?_
              rintro e w' ⟨cs', j, rfl, hp, hr, hb⟩
              exact ⟨cs', _, _, 0, rfl, .told i y hi hid hu hs hrg j true hp, hr, hb⟩
          · have hF : ∀ j f, PlaceV y.votes ⟨a.caller, a.slot⟩ j f → f = false := fun j f hp => by
              cases f with
              | false => rfl
              | true => exact absurd ((hp.mem hvr).1 rfl) hv
            cases yes with
            | true =>
              refine (vote_put cs A x a m w hm h ha o.rise o.few i y hi hid q1 q2 hu hs hrg hvr hvl a40 hF).mono ?_
              rintro e w' ⟨cs', j, rfl, hp, hr, hb⟩
              exact ⟨cs', _, _, 0, rfl, .told i y hi hid hu hs hrg j false hp, hr, hb⟩
            | false =>
              refine (vote_same0 cs A x a m w hm h ha o.rise o.few i y hi hid q1 q2 hu hs hrg hvr hvl a40 hF).mono ?_
              rintro e w' ⟨cs', j, rfl, hp, hr, hb⟩
              exact ⟨cs', _, _, 0, rfl, .told i y hi hid hu hs hrg j false hp, hr, hb⟩
        · refine (vote_range cs A x a m w hm h ha o.rise o.few i y hi hid q1 q2 hu hs hrg).mono ?_
          rintro e w' ⟨rfl, hb⟩
          exact ⟨cs, x, 0, 3, rfl, .range i y hi hid hu hs hrg, fun w'' h1 _ => h.sub h1, hb⟩
      · refine (vote_shut cs A x a m w hm h ha o.rise o.few i y hi hid q1 q2 hu hs).mono ?_
        rintro e w' ⟨rfl, hb⟩
        exact ⟨cs, x, 0, 10, rfl, .shut i y hi hid hu hs, fun w'' h1 _ => h.sub h1, hb⟩
    · refine (vote_notasked cs A x a w (h.sub hm) ha o.rise o.few i y hi hid q1 q2 hu).mono ?_
      rintro e w' ⟨rfl, hb⟩
      exact ⟨cs, x, 0, 5, rfl, .notasked i y hi hid hu, fun w'' h1 _ => h.sub h1, hb⟩
  · have hno : ∀ (i : Nat) p, x.polls[i]? = some p → p.id ≠ a.poll := fun i p hi e => hex ⟨i, p, hi, e⟩
    refine (vote_unknown cs A x a w (h.sub hm) ha o.rise o.few hno).mono ?_
    rintro e w' ⟨rfl, hb⟩
    exact ⟨cs, x, 0, 4, rfl, .unknown hno, fun w'' h1 _ => h.sub h1, hb⟩
end Go.Proofs.Ytcleicjgeflbnaa
