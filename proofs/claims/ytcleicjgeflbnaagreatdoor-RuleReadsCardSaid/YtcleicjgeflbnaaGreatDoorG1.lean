/- Shapes of data: a type's cells, one behind the other, slices with the shape of their elements; what a value reads as in a world. Plain laws; no condition. -/
import Derived.WalkKit
import Derived.ProofKit
import Derived.OpenShut
import Derived.Deep.Slices
import Derived.Deep.Fields
import Derived.Below
import Derived.ChangeArms
namespace Go.Proofs.YtcleicjgeflbnaaGreatDoor
open Go.RowKit Go.ChangeShapes Go.WideShapes Go.Deep

/-- A row of cells by their kinds. -/
inductive Sh where
  | nil : Sh
  | int (k : IntKind) (r : Sh) : Sh
  | bool (r : Sh) : Sh
  | str (r : Sh) : Sh
  | sl (e : Sh) (r : Sh) : Sh

/-- What a row of cells says. -/
inductive Dt where
  | nil : Dt
  | int (n : Int) (r : Dt) : Dt
  | bool (b : Bool) (r : Dt) : Dt
  | str (s : ByteArray) (r : Dt) : Dt
  | sl (rows : List Dt) (r : Dt) : Dt

def Sh.size : Sh → Nat
  | .nil => 0
  | .int _ r => r.size + 1
  | .bool r => r.size + 1
  | .str r => r.size + 1
  | .sl _ r => r.size + 1

/-- A slice value reads as rows, each element by R. -/
def RdS (w : World) (k : Nat) (R : List Value → Dt → Prop) (v : Value) (rows : List Dt) : Prop :=
  (v = .slice none 0 0 ∧ rows = []) ∨ ∃ (a : Addr) (n c : Nat), v = .slice (some a) n c ∧ rows.length = n ∧ n ≤ c ∧ c ≤ maxLen ∧
    ∀ i, i < n → ∃ cs : List Value, cs.length = k ∧ (∀ j, j < k → w.cell? (a.add (i * k + j)) = cs[j]?) ∧ R cs (rows.getD i .nil)

def Rd (w : World) : Sh → List Value → Dt → Prop
  | .nil, cs, d => cs = [] ∧ d = .nil
  | .int k r, cs, d => ∃ n cs' d', cs = .int k n :: cs' ∧ d = .int n d' ∧ (Lit.int k n).wf = true ∧ Rd w r cs' d'
  | .bool r, cs, d => ∃ b cs' d', cs = .bool b :: cs' ∧ d = .bool b d' ∧ Rd w r cs' d'
  | .str r, cs, d => ∃ s cs' d', cs = .string s :: cs' ∧ d = .str s d' ∧ s.size ≤ maxLen ∧ Rd w r cs' d'
  | .sl e r, cs, d => ∃ v cs' rows d', cs = v :: cs' ∧ d = .sl rows d' ∧ RdS w e.size (Rd w e) v rows ∧ Rd w r cs' d'

theorem RdS.later {w w' : World} {k : Nat} {R R' : List Value → Dt → Prop} {v : Value} {rows : List Dt} (h : RdS w k R v rows) (hb : Below w.heap.size w w') (hR : ∀ cs d, R cs d → R' cs d) : RdS w' k R' v rows := by
  rcases h with h | ⟨a, n, c, h1, h2, h3, h4, h5⟩
  · exact .inl h
  · refine .inr ⟨a, n, c, h1, h2, h3, h4, fun i hi => ?_⟩
    obtain ⟨cs, hc, hj, hr⟩ := h5 i hi
    refine ⟨cs, hc, fun j hk => ?_, hR _ _ hr⟩
    have hx := hj j hk
    have hs : cs[j]? = some (cs[j]'(by omega)) := List.getElem?_eq_getElem (by omega)
    rw [hs] at hx
    rw [hb.cell (World.block_lt_of_cell? w _ hx), hx, hs]

theorem Rd.later {w w' : World} (hb : Below w.heap.size w w') : ∀ (sh : Sh) (cs : List Value) (d : Dt), Rd w sh cs d → Rd w' sh cs d
  | .nil, _, _, h => h
  | .int _ r, _, _, ⟨n, cs', d', h1, h2, h3, h4⟩ => ⟨n, cs', d', h1, h2, h3, Rd.later hb r _ _ h4⟩
  | .bool r, _, _, ⟨n, cs', d', h1, h2, h4⟩ => ⟨n, cs', d', h1, h2, Rd.later hb r _ _ h4⟩
  | .str r, _, _, ⟨n, cs', d', h1, h2, h3, h4⟩ => ⟨n, cs', d', h1, h2, h3, Rd.later hb r _ _ h4⟩
  | .sl e r, _, _, ⟨v, cs', rows, d', h1, h2, h3, h4⟩ => ⟨v, cs', rows, d', h1, h2, h3.later hb (Rd.later hb e), Rd.later hb r _ _ h4⟩

theorem Rd.length {w : World} : ∀ (sh : Sh) (cs : List Value) (d : Dt), Rd w sh cs d → cs.length = sh.size
  | .nil, _, _, ⟨h, _⟩ => by rw [h]; rfl
  | .int _ r, _, _, ⟨_, _, _, h1, _, _, h4⟩ => by rw [h1]; simp [Sh.size, Rd.length r _ _ h4]
  | .bool r, _, _, ⟨_, _, _, h1, _, h4⟩ => by rw [h1]; simp [Sh.size, Rd.length r _ _ h4]
  | .str r, _, _, ⟨_, _, _, h1, _, _, h4⟩ => by rw [h1]; simp [Sh.size, Rd.length r _ _ h4]
  | .sl _ r, _, _, ⟨_, _, _, _, h1, _, _, h4⟩ => by rw [h1]; simp [Sh.size, Rd.length r _ _ h4]

/-! ### From the row's own reading -/
def offsOk (P : Program) : List Field → Nat → Nat → Bool
  | [], o, m => o == m
  | f :: fs, o, m => (f.offset == o) && offsOk P fs (o + P.cellsOf f.type) m

def fieldsSh (g : TypeId → Sh → Option Sh) : List Field → Sh → Option Sh
  | [], rest => some rest
  | f :: fs, rest => (fieldsSh g fs rest).bind fun s => g f.type s

/-- The shape of a type's cells, ahead of a rest; none where it holds what has no shape here. -/
def shapes (P : Program) : Nat → TypeId → Sh → Option Sh
  | 0, _, _ => none
  | n + 1, t, rest =>
    match P.underlying t with
    | some (.int k) => some (.int k rest)
    | some .bool => some (.bool rest)
    | some .string => some (.str rest)
    | some (.slice e) => (shapes P n e .nil).bind fun s => if P.cellsOf e = s.size then some (.sl s rest) else none
    | some (.struct fs) => if offsOk P fs.toList 0 (P.cellsOf t) = true then fieldsSh (shapes P n) fs.toList rest else none
    | _ => none

section
variable {H : Type} {enc : TypeId × Value → H} {P : Program} {w : World} {base : Nat} {spare : Nat → Bool} {held : Bool}

theorem fields_read (g : TypeId → Sh → Option Sh) (cs : List Value)
    (hg : ∀ t rest sh cs1 cs2 d2 fuel x, g t rest = some sh → DataW.trod enc P w base spare held fuel t cs1 = some x → Rd w rest cs2 d2 → ∃ d, Rd w sh (cs1 ++ cs2) d) :
    ∀ (fs : List Field) (o : Nat) (rest sh : Sh) (cs2 : List Value) (d2 : Dt), offsOk P fs o cs.length = true → fieldsSh g fs rest = some sh →
      (∀ f ∈ fs, ∃ fuel x, DataW.trod enc P w base spare held fuel f.type ((cs.drop f.offset).take (P.cellsOf f.type)) = some x) → Rd w rest cs2 d2 → ∃ d, Rd w sh (cs.drop o ++ cs2) d
  | [], o, rest, sh, cs2, d2, ho, hs, _, hr => by
    simp only [offsOk, beq_iff_eq] at ho
    simp only [fieldsSh, Option.some.injEq] at hs
    subst hs
    rw [ho, List.drop_length]
    exact ⟨d2, hr⟩
  | f :: fs, o, rest, sh, cs2, d2, ho, hs, hf, hr => by
    simp only [offsOk, Bool.and_eq_true, beq_iff_eq] at ho
    simp only [fieldsSh] at hs
    cases hq : fieldsSh g fs rest with
    | none => rw [hq] at hs; simp at hs
    | some s =>
      rw [hq] at hs
      simp only [Option.bind_some] at hs
      obtain ⟨d', hd'⟩ := fields_read g cs hg fs _ rest s cs2 d2 ho.2 hq (fun f' hm => hf f' (List.mem_cons_of_mem _ hm)) hr
      obtain ⟨fuel, x, hx⟩ := hf f (List.mem_cons_self ..)
      obtain ⟨d, hd⟩ := hg f.type s sh _ _ d' fuel x hs hx hd'
      refine ⟨d, ?_⟩
      rw [ho.1] at hd
      rw [← List.append_assoc, ← List.drop_drop, List.take_append_drop] at hd
      exact hd

theorem rd_of_trod : ∀ (n : Nat) (t : TypeId) (rest sh : Sh) (cs cs2 : List Value) (d2 : Dt) (fuel : Nat) (x : DataW H × List MemPlace),
    shapes P n t rest = some sh → DataW.trod enc P w base spare held fuel t cs = some x → Rd w rest cs2 d2 → ∃ d, Rd w sh (cs ++ cs2) d
  | 0, _, _, _, _, _, _, _, _, hs, _, _ => by simp [shapes] at hs
  | n + 1, t, rest, sh, cs, cs2, d2, fuel, x, hs, hx, hr => by
    unfold shapes at hs
    split at hs
    · rename_i k hk
      simp only [Option.some.injEq] at hs
      subst hs
      cases fuel with
      | zero => simp [DataW.trod] at hx
      | succ fuel =>
        unfold DataW.trod at hx
        rw [hk] at hx
        split at hx <;> simp_all
        rename_i k' m hkk
        exact ⟨.int m d2, m, cs2, d2, by simp, rfl, by simpa [hkk] using hx.1.2, hr⟩
    · rename_i hk
      simp only [Option.some.injEq] at hs
      subst hs
      cases fuel with
      | zero => simp [DataW.trod] at hx
      | succ fuel =>
        unfold DataW.trod at hx
        rw [hk] at hx
        split at hx <;> simp_all
        exact ⟨.bool _ d2, _, cs2, d2, rfl, rfl, hr⟩
    · rename_i hk
      simp only [Option.some.injEq] at hs
      subst hs
      cases fuel with
      | zero => simp [DataW.trod] at hx
      | succ fuel =>
        unfold DataW.trod at hx
        rw [hk] at hx
        split at hx <;> simp_all
        exact ⟨.str _ d2, _, cs2, d2, rfl, rfl, hx.1, hr⟩
    · rename_i e hk
      cases hq : shapes P n e .nil with
      | none => rw [hq] at hs; simp at hs
      | some s =>
        rw [hq] at hs
        simp only [Option.bind_some] at hs
        split at hs
        · rename_i hsz
          simp only [Option.some.injEq] at hs
          subst hs
          rcases open_slice hk hx with ⟨rfl, _⟩ | ⟨a, len, cap, m, n', D, Pl, rfl, hb, hl, hm, hmm, _, hi⟩
          · exact ⟨.sl [] d2, _, cs2, [], d2, rfl, rfl, .inl ⟨rfl, rfl⟩, hr⟩
          · have hlm : len ≤ m := by rw [hmm]; split <;> omega
            have hel : ∀ i, i < len → ∃ d, ∃ cs : List Value, cs.length = s.size ∧ (∀ j, j < s.size → w.cell? (a.add (i * s.size + j)) = cs[j]?) ∧ Rd w s cs d := by
              intro i hil
              obtain ⟨cs', hc, ht'⟩ := hi i (by omega)
              obtain ⟨_, hcl, hat⟩ := World.cells?_some hc
              obtain ⟨d, hd⟩ := rd_of_trod n e .nil s cs' [] .nil n' _ hq ht' ⟨rfl, rfl⟩
              rw [List.append_nil] at hd
              refine ⟨d, cs', by rw [hcl, hsz], fun j hj => ?_, hd⟩
              rw [← hat j (by omega), hsz, Go.Deep.add_add]
            refine ⟨.sl ((List.range len).map fun i => if h : i < len then (hel i h).choose else .nil) d2, _, cs2, _, d2, rfl, rfl, .inr ⟨a, len, cap, rfl, by simp, hl, hm, fun i hil => ?_⟩, hr⟩
            have hg : ((List.range len).map fun i => if h : i < len then (hel i h).choose else .nil).getD i .nil = (hel i hil).choose := by
              simp [List.getD, hil]
            rw [hg]
            exact (hel i hil).choose_spec
        · simp at hs
    · rename_i fs hk
      split at hs
      · rename_i ho
        obtain ⟨xs, n', _, hxx, hcl, hxl, hf⟩ := DataW.trod_struct hk hx
        have := fields_read (enc := enc) (P := P) (w := w) (base := base) (spare := spare) (held := held) (shapes P n) cs (fun t rest sh cs1 cs2 d2 fuel x h1 h2 h3 => rd_of_trod n t rest sh cs1 cs2 d2 fuel x h1 h2 h3)
          fs.toList 0 rest sh cs2 d2 (by rw [hcl]; exact ho) hs (fun f hm => by
            obtain ⟨i, hi, rfl⟩ := List.getElem_of_mem hm
            have h1 : fs[i]? = some fs.toList[i] := by rw [← Array.getElem?_toList]; exact List.getElem?_eq_getElem hi
            have h2 := hf i _ h1
            have h3 : i < xs.length := by rw [hxl]; simpa using hi
            exact ⟨n', xs[i], by rw [h2]; exact List.getElem?_eq_getElem h3⟩) hr
        rw [List.drop_zero] at this
        exact this
      · simp at hs
    · simp at hs
end
end Go.Proofs.YtcleicjgeflbnaaGreatDoor
