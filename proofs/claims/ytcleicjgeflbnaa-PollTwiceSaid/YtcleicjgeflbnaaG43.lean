/- Telling a vote, in plain words: told twice is told once; taken back leaves the votes as they were. Plain laws; the votes rise. -/
import Derived.Test.YtcleicjgeflbnaaG36
namespace Go.Proofs.Ytcleicjgeflbnaa
open Go.RowKit Go.ChangeShapes Go.WideShapes Go.Deep

/-- The votes behind a vote, told or taken back, at its place. -/
def told (xs : List VoteD) (v : VoteD) (i : Nat) (f yes : Bool) : List VoteD :=
  if yes && !f then putAt xs i v else if !yes && f then xs.eraseIdx i else xs

theorem told_rises {xs : List VoteD} {v : VoteD} {i : Nat} {f : Bool} (h : PlaceV xs v i f) (hr : votesRise xs) (yes : Bool) : votesRise (told xs v i f yes) := by
  unfold told
  cases yes <;> cases f
  · exact hr
  · exact erase_rises hr i
  · exact h.put_rises hr
  · exact hr
/-- Behind a vote that was told it stands at its place. -/
theorem told_place {xs : List VoteD} {v : VoteD} {i : Nat} {f : Bool} (h : PlaceV xs v i f) : PlaceV (told xs v i f true) v i true := by
  unfold told
  cases f
  · exact h.put_place
  · exact h
/-- Told twice is told once. -/
theorem told_twice {xs : List VoteD} {v : VoteD} {i j : Nat} {f g : Bool} (h : PlaceV xs v i f) (k : PlaceV (told xs v i f true) v j g) : told (told xs v i f true) v j g true = told xs v i f true ∧ j = i ∧ g = true := by
  obtain ⟨e1, e2⟩ := k.uniq (told_place h)
  subst e1; subst e2
  exact ⟨rfl, rfl, rfl⟩
/-- Taken back, it leaves the votes as they were, if it was not told ahead. -/
theorem told_back {xs : List VoteD} {v : VoteD} {i : Nat} (h : PlaceV xs v i false) : told (told xs v i false true) v i true false = xs := by
  have e : told xs v i false true = putAt xs i v := rfl
  rw [e]
  show (putAt xs i v).eraseIdx i = xs
  exact putAt_erase xs i v h.le
/-- One less said yes behind a vote that is taken back. -/
theorem told_count {xs : List VoteD} {v : VoteD} {i : Nat} {f : Bool} (h : PlaceV xs v i f) (p : VoteD → Bool) (hp : p v = true) :
    (told xs v i f true).countP p = (told (told xs v i f true) v i true false).countP p + 1 := by
  have hpl := told_place h
  have hx : (told xs v i f true)[i]? = some v := dec_iff.1 hpl.is.symm
  have := count_erase p _ i v hx
  rw [hp, if_pos rfl] at this
  exact this
end Go.Proofs.Ytcleicjgeflbnaa
