/- What comes of a vote, in plain words; told twice it is told once, taken back it leaves the state as it was. Plain laws; the polls' numbers and the votes rise. -/
import Derived.Test.YtcleicjgeflbnaaG43
import Derived.Test.YtcleicjgeflbnaaG22
import Derived.Test.YtcleicjgeflbnaaG37
namespace Go.Proofs.Ytcleicjgeflbnaa
open Go.RowKit Go.ChangeShapes Go.WideShapes Go.Deep

/-- A state with other votes in one of its polls. -/
def StateD.tell (x : StateD) (i : Nat) (y : PollD) (vs : List VoteD) : StateD := { x with polls := x.polls.set i { y with votes := vs } }

/-- What comes of a vote: the state behind it, how many said yes, the error. -/
inductive VoteR (x : StateD) (id u s : Int) (yes : Bool) : StateD → Nat → Int → Prop
  | unknown (h : ∀ (i : Nat) p, x.polls[i]? = some p → p.id ≠ id) : VoteR x id u s yes x 0 4
  | notasked (i : Nat) (y : PollD) (hi : x.polls[i]? = some y) (hid : y.id = id) (hu : ¬ u ∈ y.query.users) : VoteR x id u s yes x 0 5
  | shut (i : Nat) (y : PollD) (hi : x.polls[i]? = some y) (hid : y.id = id) (hu : u ∈ y.query.users) (hs : y.state ≠ 1) : VoteR x id u s yes x 0 10
  | range (i : Nat) (y : PollD) (hi : x.polls[i]? = some y) (hid : y.id = id) (hu : u ∈ y.query.users) (hs : y.state = 1) (h : ¬ (0 ≤ s ∧ s < (y.slots.length : Int))) : VoteR x id u s yes x 0 3
  | told (i : Nat) (y : PollD) (hi : x.polls[i]? = some y) (hid : y.id = id) (hu : u ∈ y.query.users) (hs : y.state = 1) (h : 0 ≤ s ∧ s < (y.slots.length : Int)) (j : Nat) (f : Bool) (hp : PlaceV y.votes ⟨u, s⟩ j f) :
      VoteR x id u s yes (x.tell i y (told y.votes ⟨u, s⟩ j f yes)) ((told y.votes ⟨u, s⟩ j f yes).countP (fun v => decide (v.slot = s))) 0

theorem poll_uniq {xs : List PollD} (hr : rises (·.id) xs) {i j : Nat} {p q : PollD} (hi : xs[i]? = some p) (hj : xs[j]? = some q) (e : p.id = q.id) : i = j ∧ p = q := by
  have hij : i = j := by
    rcases Nat.lt_trichotomy i j with h | h | h
    · have := rises_lt hr (j - i - 1) i p q hi (by rw [show i + (j - i - 1) + 1 = j by omega]; exact hj)
      omega
    · exact h
    · have := rises_lt hr (i - j - 1) j q p hj (by rw [show j + (i - j - 1) + 1 = i by omega]; exact hi)
      omega
  subst hij
  rw [hi] at hj
  cases hj
  exact ⟨rfl, rfl⟩

theorem VoteR.det {x : StateD} {id u s : Int} {yes : Bool} {t t' : StateD} {n n' : Nat} {e e' : Int} (hr : rises (·.id) x.polls) (h1 : VoteR x id u s yes t n e) (h2 : VoteR x id u s yes t' n' e') : t = t' ∧ n = n' ∧ e = e' := by
  cases h1 with
  | unknown h =>
    cases h2 with
    | unknown _ => exact ⟨rfl, rfl, rfl⟩
    | notasked i y hi hid => exact absurd hid (h i y hi)
    | shut i y hi hid => exact absurd hid (h i y hi)
    | range i y hi hid => exact absurd hid (h i y hi)
    | told i y hi hid => exact absurd hid (h i y hi)
  | notasked i y hi hid hu =>
    cases h2 with
    | unknown h => exact absurd hid (h i y hi)
    | notasked => exact ⟨rfl, rfl, rfl⟩
    | shut i' y' hi' hid' hu' => obtain ⟨rfl, rfl⟩ := poll_uniq hr hi hi' (hid.trans hid'.symm); exact absurd hu' hu
    | range i' y' hi' hid' hu' => obtain ⟨rfl, rfl⟩ := poll_uniq hr hi hi' (hid.trans hid'.symm); exact absurd hu' hu
    | told i' y' hi' hid' hu' => obtain ⟨rfl, rfl⟩ := poll_uniq hr hi hi' (hid.trans hid'.symm); exact absurd hu' hu
  | shut i y hi hid hu hs =>
    cases h2 with
    | unknown h => exact absurd hid (h i y hi)
    | notasked i' y' hi' hid' hu' => obtain ⟨rfl, rfl⟩ := poll_uniq hr hi hi' (hid.trans hid'.symm); exact absurd hu hu'
    | shut => exact ⟨rfl, rfl, rfl⟩
    | range i' y' hi' hid' hu' hs' => obtain ⟨rfl, rfl⟩ := poll_uniq hr hi hi' (hid.trans hid'.symm); exact absurd hs' hs
    | told i' y' hi' hid' hu' hs' => obtain ⟨rfl, rfl⟩ := poll_uniq hr hi hi' (hid.trans hid'.symm); exact absurd hs' hs
  | range i y hi hid hu hs h =>
    cases h2 with
    | unknown h => exact absurd hid (h i y hi)
    | notasked i' y' hi' hid' hu' => obtain ⟨rfl, rfl⟩ := poll_uniq hr hi hi' (hid.trans hid'.symm); exact absurd hu hu'
    | shut i' y' hi' hid' hu' hs' => obtain ⟨rfl, rfl⟩ := poll_uniq hr hi hi' (hid.trans hid'.symm); exact absurd hs hs'
    | range => exact ⟨rfl, rfl, rfl⟩
    | told i' y' hi' hid' hu' hs' h' => obtain ⟨rfl, rfl⟩ := poll_uniq hr hi hi' (hid.trans hid'.symm); exact absurd h' h
  | told i y hi hid hu hs h j f hp =>
    cases h2 with
    | unknown h => exact absurd hid (h i y hi)
    | notasked i' y' hi' hid' hu' => obtain ⟨rfl, rfl⟩ := poll_uniq hr hi hi' (hid.trans hid'.symm); exact absurd hu hu'
    | shut i' y' hi' hid' hu' hs' => obtain ⟨rfl, rfl⟩ := poll_uniq hr hi hi' (hid.trans hid'.symm); exact absurd hs hs'
    | range i' y' hi' hid' hu' hs' h' => obtain ⟨rfl, rfl⟩ := poll_uniq hr hi hi' (hid.trans hid'.symm); exact absurd h h'
    | told i' y' hi' hid' hu' hs' h' j' f' hp' =>
      obtain ⟨rfl, rfl⟩ := poll_uniq hr hi hi' (hid.trans hid'.symm)
      obtain ⟨rfl, rfl⟩ := hp.uniq hp'
      exact ⟨rfl, rfl, rfl⟩

theorem tell_at {x : StateD} {i : Nat} {y : PollD} (hi : x.polls[i]? = some y) (vs : List VoteD) : (x.tell i y vs).polls[i]? = some { y with votes := vs } := by
  have hl := (List.getElem?_eq_some_iff.1 hi).1
  simp [StateD.tell, List.getElem?_set_self hl]
theorem tell_tell (x : StateD) (i : Nat) (y : PollD) (vs us : List VoteD) : (x.tell i y vs).tell i { y with votes := vs } us = x.tell i y us := by
  simp [StateD.tell]
theorem tell_same {x : StateD} {i : Nat} {y : PollD} (hi : x.polls[i]? = some y) : x.tell i y y.votes = x := by
  obtain ⟨c, us, ps, ds⟩ := x
  have e : ps.set i y = ps := by
    apply List.ext_getElem?
    intro t
    by_cases h : i = t
    · subst h
      rw [List.getElem?_set_self (List.getElem?_eq_some_iff.1 hi).1]
      exact hi.symm
    · rw [List.getElem?_set_ne h]
  show StateD.mk c us (ps.set i y) ds = _
  rw [e]
theorem tell_get {x : StateD} {i : Nat} {y : PollD} (hi : x.polls[i]? = some y) (vs : List VoteD) (t : Nat) (p : PollD) (h : (x.tell i y vs).polls[t]? = some p) : (t = i ∧ p = { y with votes := vs }) ∨ (t ≠ i ∧ x.polls[t]? = some p) := by
  by_cases ht : t = i
  · subst ht
    rw [tell_at hi] at h
    cases h
    exact .inl ⟨rfl, rfl⟩
  · refine .inr ⟨ht, ?_⟩
    simpa [StateD.tell, List.getElem?_set_ne (fun e => ht (Eq.symm e))] using h
theorem tell_rises {x : StateD} {i : Nat} {y : PollD} (hi : x.polls[i]? = some y) (vs : List VoteD) (hr : rises (·.id) x.polls) : rises (·.id) (x.tell i y vs).polls := by
  have key : ∀ (t : Nat) (p : PollD), (x.tell i y vs).polls[t]? = some p → ∃ q, x.polls[t]? = some q ∧ q.id = p.id := fun t p h => by
    rcases tell_get hi vs t p h with ⟨rfl, rfl⟩ | ⟨_, h⟩
    · exact ⟨y, hi, rfl⟩
    · exact ⟨p, h, rfl⟩
  intro t a b ha hb
  obtain ⟨a', ha', ea⟩ := key t a ha
  obtain ⟨b', hb', eb⟩ := key (t + 1) b hb
  have := hr t a' b' ha' hb'
  show a.id < b.id
  have h' : a'.id < b'.id := this
  omega

/-- What a state must be for votes to be told: the polls' numbers and votes rise; sizes are bounded. -/
structure VoteOk (x : StateD) (m : Nat) : Prop where
  rise : rises (·.id) x.polls
  votes : ∀ (i : Nat) p, x.polls[i]? = some p → votesRise p.votes
  few : x.polls.length ≤ 100
  q1 : ∀ (i : Nat) p, x.polls[i]? = some p → p.query.must.length ≤ 100
  q2 : ∀ (i : Nat) p, x.polls[i]? = some p → p.query.may.length ≤ 100
  v : ∀ (i : Nat) p, x.polls[i]? = some p → p.votes.length ≤ m

theorem told_length {xs : List VoteD} {v : VoteD} {i : Nat} {f : Bool} (h : PlaceV xs v i f) (yes : Bool) : (told xs v i f yes).length ≤ xs.length + 1 := by
  have := h.le
  unfold told
  cases yes <;> cases f
  · simp
  · simp only [Bool.false_and, Bool.false_eq_true, if_false, Bool.not_false, Bool.true_and, if_true, List.length_eraseIdx]
    split <;> omega
  · simp [putAt]; omega
  · simp

theorem VoteR.ok {x t : StateD} {id u s : Int} {yes : Bool} {n m : Nat} {e : Int} (h : VoteR x id u s yes t n e) (o : VoteOk x m) : VoteOk t (m + 1) := by
  have same : VoteOk x (m + 1) := ⟨o.rise, o.votes, o.few, o.q1, o.q2, fun i p hp => Nat.le_succ_of_le (o.v i p hp)⟩
  cases h with
  | unknown => exact same
  | notasked => exact same
  | shut => exact same
  | range => exact same
  | told i y hi hid hu hs h j f hp =>
    refine ⟨tell_rises hi _ o.rise, fun t p ht => ?_, by simpa [StateD.tell] using o.few, fun t p ht => ?_, fun t p ht => ?_, fun t p ht => ?_⟩ <;> rcases tell_get hi _ t p ht with ⟨rfl, rfl⟩ | ⟨_, h'⟩
    · exact told_rises hp (o.votes _ _ hi) yes
    · exact o.votes _ _ h'
    · exact o.q1 _ y hi
    · exact o.q1 _ _ h'
    · exact o.q2 _ y hi
    · exact o.q2 _ _ h'
    · exact Nat.le_trans (told_length hp yes) (Nat.succ_le_succ (o.v _ _ hi))
    · exact Nat.le_succ_of_le (o.v _ _ h')

/-- A vote that is told twice is told once; one that is taken back leaves the state as it was, if it was not told ahead. -/
theorem vote_law {x t r z : StateD} {id u s : Int} {n m k N : Nat} {e f g : Int} (o : VoteOk x N) (h1 : VoteR x id u s true t n e) (h2 : VoteR t id u s true r m f) (h3 : VoteR r id u s false z k g) :
    e = f ∧ n = m ∧ t = r ∧ ((e ≠ 0 ∧ g = e ∧ z = x) ∨ (e = 0 ∧ g = 0 ∧ n = k + 1 ∧ n ≤ N + 1 ∧ ∃ (i : Nat) (y : PollD), x.polls[i]? = some y ∧ y.id = id ∧ ((∀ w ∈ y.votes, ¬ (w.user = u ∧ w.slot = s)) → z = x))) := by
  cases h1 with
  | unknown h =>
    obtain ⟨e1, e2, e3⟩ := VoteR.det o.rise h2 (.unknown h)
    subst e1; subst e2; subst e3
    obtain ⟨e1, e2, e3⟩ := VoteR.det o.rise h3 (.unknown h)
    exact ⟨rfl, rfl, rfl, .inl ⟨by decide, e3, e1⟩⟩
  | notasked i y hi hid hu =>
    obtain ⟨e1, e2, e3⟩ := VoteR.det o.rise h2 (.notasked i y hi hid hu)
    subst e1; subst e2; subst e3
    obtain ⟨e1, e2, e3⟩ := VoteR.det o.rise h3 (.notasked i y hi hid hu)
    exact ⟨rfl, rfl, rfl, .inl ⟨by decide, e3, e1⟩⟩
  | shut i y hi hid hu hs =>
    obtain ⟨e1, e2, e3⟩ := VoteR.det o.rise h2 (.shut i y hi hid hu hs)
    subst e1; subst e2; subst e3
    obtain ⟨e1, e2, e3⟩ := VoteR.det o.rise h3 (.shut i y hi hid hu hs)
    exact ⟨rfl, rfl, rfl, .inl ⟨by decide, e3, e1⟩⟩
  | range i y hi hid hu hs h =>
    obtain ⟨e1, e2, e3⟩ := VoteR.det o.rise h2 (.range i y hi hid hu hs h)
    subst e1; subst e2; subst e3
    obtain ⟨e1, e2, e3⟩ := VoteR.det o.rise h3 (.range i y hi hid hu hs h)
    exact ⟨rfl, rfl, rfl, .inl ⟨by decide, e3, e1⟩⟩
  | told i y hi hid hu hs h j b hp =>
    have hr' := tell_rises hi (told y.votes ⟨u, s⟩ j b true) o.rise
    have hi' := tell_at hi (told y.votes ⟨u, s⟩ j b true)
    have hpl := told_place hp
    have c2 := VoteR.told (x := x.tell i y (told y.votes ⟨u, s⟩ j b true)) (id := id) (u := u) (s := s) (yes := true) i _ hi' hid hu hs h j true hpl
    have c3 := VoteR.told (x := x.tell i y (told y.votes ⟨u, s⟩ j b true)) (id := id) (u := u) (s := s) (yes := false) i _ hi' hid hu hs h j true hpl
    rw [tell_tell] at c2 c3
    have tt : told (told y.votes ⟨u, s⟩ j b true) ⟨u, s⟩ j true true = told y.votes ⟨u, s⟩ j b true := rfl
    simp only [tt] at c2
    obtain ⟨e1, e2, e3⟩ := VoteR.det hr' h2 c2
    subst e1; subst e2; subst e3
    obtain ⟨e1, e2, e3⟩ := VoteR.det hr' h3 c3
    refine ⟨rfl, rfl, rfl, .inr ⟨rfl, e3, ?_, ?_, i, y, hi, hid, fun hno => ?_⟩⟩
    · rw [e2]
      exact told_count hp _ (by simp)
    · exact Nat.le_trans List.countP_le_length (Nat.le_trans (told_length hp true) (Nat.succ_le_succ (o.v _ _ hi)))
    · rw [e1]
      have hb : b = false := by
        cases b with
        | false => rfl
        | true => exact absurd ⟨rfl, rfl⟩ (hno _ ((hp.mem (o.votes _ _ hi)).1 rfl))
      subst hb
      show x.tell i y (told (told y.votes ⟨u, s⟩ j false true) ⟨u, s⟩ j true false) = x
      rw [told_back hp]
      exact tell_same hi
/-- A vote that is told twice is told once. -/
theorem vote_law_two {x t r : StateD} {id u s : Int} {n m N : Nat} {e f : Int} (o : VoteOk x N) (h1 : VoteR x id u s true t n e) (h2 : VoteR t id u s true r m f) : e = f ∧ n = m ∧ t = r := by
  cases h1 with
  | unknown h =>
    obtain ⟨e1, e2, e3⟩ := VoteR.det o.rise h2 (.unknown h)
    exact ⟨e3.symm, e2.symm, e1.symm⟩
  | notasked i y hi hid hu =>
    obtain ⟨e1, e2, e3⟩ := VoteR.det o.rise h2 (.notasked i y hi hid hu)
    exact ⟨e3.symm, e2.symm, e1.symm⟩
  | shut i y hi hid hu hs =>
    obtain ⟨e1, e2, e3⟩ := VoteR.det o.rise h2 (.shut i y hi hid hu hs)
    exact ⟨e3.symm, e2.symm, e1.symm⟩
  | range i y hi hid hu hs h =>
    obtain ⟨e1, e2, e3⟩ := VoteR.det o.rise h2 (.range i y hi hid hu hs h)
    exact ⟨e3.symm, e2.symm, e1.symm⟩
  | told i y hi hid hu hs h j b hp =>
    have hr' := tell_rises hi (told y.votes ⟨u, s⟩ j b true) o.rise
    have c2 := VoteR.told (x := x.tell i y (told y.votes ⟨u, s⟩ j b true)) (id := id) (u := u) (s := s) (yes := true) i _ (tell_at hi _) hid hu hs h j true (told_place hp)
    rw [tell_tell] at c2
    have tt : told (told y.votes ⟨u, s⟩ j b true) ⟨u, s⟩ j true true = told y.votes ⟨u, s⟩ j b true := rfl
    simp only [tt] at c2
    obtain ⟨e1, e2, e3⟩ := VoteR.det hr' h2 c2
    exact ⟨e3.symm, e2.symm, e1.symm⟩
end Go.Proofs.Ytcleicjgeflbnaa
