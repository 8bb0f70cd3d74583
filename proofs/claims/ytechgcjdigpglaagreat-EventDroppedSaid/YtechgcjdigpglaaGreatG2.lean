/- Shapes of data: a type's cells, one behind the other, slices with the shape of their elements; what a value reads as in a world. Plain laws; no condition. The program's data as plain records, and what a row of cells reads as. Plain laws; no condition. -/
import Derived.WalkKit
import Derived.ProofKit
import Derived.OpenShut
import Derived.Deep.Slices
import Derived.Deep.Fields
import Derived.Below
import Derived.ChangeArms
namespace Go.Proofs.YtechgcjdigpglaaGreat
open Go.RowKit Go.ChangeShapes Go.WideShapes Go.Deep

/-- A row of cells by their kinds. -/
inductive Sh where
  | nil : Sh
  | int (k : IntKind) (r : Sh) : Sh
  | bool (r : Sh) : Sh
  | str (r : Sh) : Sh
  | sl (e : Sh) (r : Sh) : Sh

/-- What a row of cells says. -/
inductive Dt where
  | nil : Dt
  | int (n : Int) (r : Dt) : Dt
  | bool (b : Bool) (r : Dt) : Dt
  | str (s : ByteArray) (r : Dt) : Dt
  | sl (rows : List Dt) (r : Dt) : Dt

def Sh.size : Sh → Nat
  | .nil => 0
  | .int _ r => r.size + 1
  | .bool r => r.size + 1
  | .str r => r.size + 1
  | .sl _ r => r.size + 1

/-- A slice value reads as rows, each element by R. -/
def RdS (w : World) (k : Nat) (R : List Value → Dt → Prop) (v : Value) (rows : List Dt) : Prop :=
  (v = .slice none 0 0 ∧ rows = []) ∨ ∃ (a : Addr) (n c : Nat), v = .slice (some a) n c ∧ rows.length = n ∧ n ≤ c ∧ c ≤ maxLen ∧
    ∀ i, i < n → ∃ cs : List Value, cs.length = k ∧ (∀ j, j < k → w.cell? (a.add (i * k + j)) = cs[j]?) ∧ R cs (rows.getD i .nil)

def Rd (w : World) : Sh → List Value → Dt → Prop
  | .nil, cs, d => cs = [] ∧ d = .nil
  | .int k r, cs, d => ∃ n cs' d', cs = .int k n :: cs' ∧ d = .int n d' ∧ (Lit.int k n).wf = true ∧ Rd w r cs' d'
  | .bool r, cs, d => ∃ b cs' d', cs = .bool b :: cs' ∧ d = .bool b d' ∧ Rd w r cs' d'
  | .str r, cs, d => ∃ s cs' d', cs = .string s :: cs' ∧ d = .str s d' ∧ s.size ≤ maxLen ∧ Rd w r cs' d'
  | .sl e r, cs, d => ∃ v cs' rows d', cs = v :: cs' ∧ d = .sl rows d' ∧ RdS w e.size (Rd w e) v rows ∧ Rd w r cs' d'

theorem RdS.later {w w' : World} {k : Nat} {R R' : List Value → Dt → Prop} {v : Value} {rows : List Dt} (h : RdS w k R v rows) (hb : Below w.heap.size w w') (hR : ∀ cs d, R cs d → R' cs d) : RdS w' k R' v rows := by
  rcases h with h | ⟨a, n, c, h1, h2, h3, h4, h5⟩
  · exact .inl h
  · refine .inr ⟨a, n, c, h1, h2, h3, h4, fun i hi => ?_⟩
    obtain ⟨cs, hc, hj, hr⟩ := h5 i hi
    refine ⟨cs, hc, fun j hk => ?_, hR _ _ hr⟩
    have hx := hj j hk
    have hs : cs[j]? = some (cs[j]'(by omega)) := List.getElem?_eq_getElem (by omega)
    rw [hs] at hx
    rw [hb.cell (World.block_lt_of_cell? w _ hx), hx, hs]

theorem Rd.later {w w' : World} (hb : Below w.heap.size w w') : ∀ (sh : Sh) (cs : List Value) (d : Dt), Rd w sh cs d → Rd w' sh cs d
  | .nil, _, _, h => h
  | .int _ r, _, _, ⟨n, cs', d', h1, h2, h3, h4⟩ => ⟨n, cs', d', h1, h2, h3, Rd.later hb r _ _ h4⟩
  | .bool r, _, _, ⟨n, cs', d', h1, h2, h4⟩ => ⟨n, cs', d', h1, h2, Rd.later hb r _ _ h4⟩
  | .str r, _, _, ⟨n, cs', d', h1, h2, h3, h4⟩ => ⟨n, cs', d', h1, h2, h3, Rd.later hb r _ _ h4⟩
  | .sl e r, _, _, ⟨v, cs', rows, d', h1, h2, h3, h4⟩ => ⟨v, cs', rows, d', h1, h2, h3.later hb (Rd.later hb e), Rd.later hb r _ _ h4⟩

theorem Rd.length {w : World} : ∀ (sh : Sh) (cs : List Value) (d : Dt), Rd w sh cs d → cs.length = sh.size
  | .nil, _, _, ⟨h, _⟩ => by rw [h]; rfl
  | .int _ r, _, _, ⟨_, _, _, h1, _, _, h4⟩ => by rw [h1]; simp [Sh.size, Rd.length r _ _ h4]
  | .bool r, _, _, ⟨_, _, _, h1, _, h4⟩ => by rw [h1]; simp [Sh.size, Rd.length r _ _ h4]
  | .str r, _, _, ⟨_, _, _, h1, _, _, h4⟩ => by rw [h1]; simp [Sh.size, Rd.length r _ _ h4]
  | .sl _ r, _, _, ⟨_, _, _, _, h1, _, _, h4⟩ => by rw [h1]; simp [Sh.size, Rd.length r _ _ h4]

/-! ### From the row's own reading -/
def offsOk (P : Program) : List Field → Nat → Nat → Bool
  | [], o, m => o == m
  | f :: fs, o, m => (f.offset == o) && offsOk P fs (o + P.cellsOf f.type) m

def fieldsSh (g : TypeId → Sh → Option Sh) : List Field → Sh → Option Sh
  | [], rest => some rest
  | f :: fs, rest => (fieldsSh g fs rest).bind fun s => g f.type s

/-- The shape of a type's cells, ahead of a rest; none where it holds what has no shape here. -/
def shapes (P : Program) : Nat → TypeId → Sh → Option Sh
  | 0, _, _ => none
  | n + 1, t, rest =>
    match P.underlying t with
    | some (.int k) => some (.int k rest)
    | some .bool => some (.bool rest)
    | some .string => some (.str rest)
    | some (.slice e) => (shapes P n e .nil).bind fun s => if P.cellsOf e = s.size then some (.sl s rest) else none
    | some (.struct fs) => if offsOk P fs.toList 0 (P.cellsOf t) = true then fieldsSh (shapes P n) fs.toList rest else none
    | _ => none

section
variable {H : Type} {enc : TypeId × Value → H} {P : Program} {w : World} {base : Nat} {spare : Nat → Bool} {held : Bool}

theorem fields_read (g : TypeId → Sh → Option Sh) (cs : List Value)
    (hg : ∀ t rest sh cs1 cs2 d2 fuel x, g t rest = some sh → DataW.trod enc P w base spare held fuel t cs1 = some x → Rd w rest cs2 d2 → ∃ d, Rd w sh (cs1 ++ cs2) d) :
    ∀ (fs : List Field) (o : Nat) (rest sh : Sh) (cs2 : List Value) (d2 : Dt), offsOk P fs o cs.length = true → fieldsSh g fs rest = some sh →
      (∀ f ∈ fs, ∃ fuel x, DataW.trod enc P w base spare held fuel f.type ((cs.drop f.offset).take (P.cellsOf f.type)) = some x) → Rd w rest cs2 d2 → ∃ d, Rd w sh (cs.drop o ++ cs2) d
  | [], o, rest, sh, cs2, d2, ho, hs, _, hr => by
    simp only [offsOk, beq_iff_eq] at ho
    simp only [fieldsSh, Option.some.injEq] at hs
    subst hs
    rw [ho, List.drop_length]
    exact ⟨d2, hr⟩
  | f :: fs, o, rest, sh, cs2, d2, ho, hs, hf, hr => by
    simp only [offsOk, Bool.and_eq_true, beq_iff_eq] at ho
    simp only [fieldsSh] at hs
    cases hq : fieldsSh g fs rest with
    | none => rw [hq] at hs; simp at hs
    | some s =>
      rw [hq] at hs
      simp only [Option.bind_some] at hs
      obtain ⟨d', hd'⟩ := fields_read g cs hg fs _ rest s cs2 d2 ho.2 hq (fun f' hm => hf f' (List.mem_cons_of_mem _ hm)) hr
      obtain ⟨fuel, x, hx⟩ := hf f (List.mem_cons_self ..)
      obtain ⟨d, hd⟩ := hg f.type s sh _ _ d' fuel x hs hx hd'
      refine ⟨d, ?_⟩
      rw [ho.1] at hd
      rw [← List.append_assoc, ← List.drop_drop, List.take_append_drop] at hd
      exact hd

theorem rd_of_trod : ∀ (n : Nat) (t : TypeId) (rest sh : Sh) (cs cs2 : List Value) (d2 : Dt) (fuel : Nat) (x : DataW H × List MemPlace),
    shapes P n t rest = some sh → DataW.trod enc P w base spare held fuel t cs = some x → Rd w rest cs2 d2 → ∃ d, Rd w sh (cs ++ cs2) d
  | 0, _, _, _, _, _, _, _, _, hs, _, _ => by simp [shapes] at hs
  | n + 1, t, rest, sh, cs, cs2, d2, fuel, x, hs, hx, hr => by
    unfold shapes at hs
    split at hs
    · rename_i k hk
      simp only [Option.some.injEq] at hs
      subst hs
      cases fuel with
      | zero => simp [DataW.trod] at hx
      | succ fuel =>
        unfold DataW.trod at hx
        rw [hk] at hx
        split at hx <;> simp_all
        rename_i k' m hkk
        exact ⟨.int m d2, m, cs2, d2, by simp, rfl, by simpa [hkk] using hx.1.2, hr⟩
    · rename_i hk
      simp only [Option.some.injEq] at hs
      subst hs
      cases fuel with
      | zero => simp [DataW.trod] at hx
      | succ fuel =>
        unfold DataW.trod at hx
        rw [hk] at hx
        split at hx <;> simp_all
        exact ⟨.bool _ d2, _, cs2, d2, rfl, rfl, hr⟩
    · rename_i hk
      simp only [Option.some.injEq] at hs
      subst hs
      cases fuel with
      | zero => simp [DataW.trod] at hx
      | succ fuel =>
        unfold DataW.trod at hx
        rw [hk] at hx
        split at hx <;> simp_all
        exact ⟨.str _ d2, _, cs2, d2, rfl, rfl, hx.1, hr⟩
    · rename_i e hk
      cases hq : shapes P n e .nil with
      | none => rw [hq] at hs; simp at hs
      | some s =>
        rw [hq] at hs
        simp only [Option.bind_some] at hs
        split at hs
        · rename_i hsz
          simp only [Option.some.injEq] at hs
          subst hs
          rcases open_slice hk hx with ⟨rfl, _⟩ | ⟨a, len, cap, m, n', D, Pl, rfl, hb, hl, hm, hmm, _, hi⟩
          · exact ⟨.sl [] d2, _, cs2, [], d2, rfl, rfl, .inl ⟨rfl, rfl⟩, hr⟩
          · have hlm : len ≤ m := by rw [hmm]; split <;> omega
            have hel : ∀ i, i < len → ∃ d, ∃ cs : List Value, cs.length = s.size ∧ (∀ j, j < s.size → w.cell? (a.add (i * s.size + j)) = cs[j]?) ∧ Rd w s cs d := by
              intro i hil
              obtain ⟨cs', hc, ht'⟩ := hi i (by omega)
              obtain ⟨_, hcl, hat⟩ := World.cells?_some hc
              obtain ⟨d, hd⟩ := rd_of_trod n e .nil s cs' [] .nil n' _ hq ht' ⟨rfl, rfl⟩
              rw [List.append_nil] at hd
              refine ⟨d, cs', by rw [hcl, hsz], fun j hj => ?_, hd⟩
              rw [← hat j (by omega), hsz, Go.Deep.add_add]
            refine ⟨.sl ((List.range len).map fun i => if h : i < len then (hel i h).choose else .nil) d2, _, cs2, _, d2, rfl, rfl, .inr ⟨a, len, cap, rfl, by simp, hl, hm, fun i hil => ?_⟩, hr⟩
            have hg : ((List.range len).map fun i => if h : i < len then (hel i h).choose else .nil).getD i .nil = (hel i hil).choose := by
              simp [List.getD, hil]
            rw [hg]
            exact (hel i hil).choose_spec
        · simp at hs
    · rename_i fs hk
      split at hs
      · rename_i ho
        obtain ⟨xs, n', _, hxx, hcl, hxl, hf⟩ := DataW.trod_struct hk hx
        have := fields_read (enc := enc) (P := P) (w := w) (base := base) (spare := spare) (held := held) (shapes P n) cs (fun t rest sh cs1 cs2 d2 fuel x h1 h2 h3 => rd_of_trod n t rest sh cs1 cs2 d2 fuel x h1 h2 h3)
          fs.toList 0 rest sh cs2 d2 (by rw [hcl]; exact ho) hs (fun f hm => by
            obtain ⟨i, hi, rfl⟩ := List.getElem_of_mem hm
            have h1 : fs[i]? = some fs.toList[i] := by rw [← Array.getElem?_toList]; exact List.getElem?_eq_getElem hi
            have h2 := hf i _ h1
            have h3 : i < xs.length := by rw [hxl]; simpa using hi
            exact ⟨n', xs[i], by rw [h2]; exact List.getElem?_eq_getElem h3⟩) hr
        rw [List.drop_zero] at this
        exact this
      · simp at hs
    · simp at hs
end
end Go.Proofs.YtechgcjdigpglaaGreat
namespace Go.Proofs.YtechgcjdigpglaaGreat
open Go.RowKit Go.ChangeShapes Go.WideShapes Go.Deep

structure TurnD where (at_ off : Int)
structure ShiftD where (days from_ to_ : Int)
structure DayND where (n day : Int)
structure ChangeD where (at_ start long : Int)
structure WantedD where (user weight : Int)
structure PairD where (a b : Int)
structure VoteD where (user slot : Int)
structure DoneD where (caller number version : Int)
structure SettingsD where
  base : Int
  turns : List TurnD
  shifts : List ShiftD
  offs : List Int
  before : Int
  after : Int
structure RuleD where
  freq : Int
  interval : Int
  count : Int
  until_ : Int
  byMonth : List Int
  byMonthDay : List Int
  byDay : List DayND
  bySetPos : List Int
  start : Int
structure EventD where
  start : Int
  long : Int
  world : Bool
  again : Bool
  rule : RuleD
  ex : List Int
  plus : List Int
  changes : List ChangeD
structure EntryD where
  id : Int
  event : EventD
structure UserD where
  id : Int
  settings : SettingsD
  version : Int
  events : List EntryD
structure QueryD where
  from_ : Int
  to_ : Int
  long : Int
  grid : Int
  must : List Int
  may : List WantedD
  seats : Int
  apart : List PairD
  prefer : List ShiftD
structure PollD where
  id : Int
  owner : Int
  query : QueryD
  slots : List Int
  votes : List VoteD
  until_ : Int
  state : Int
  winner : Int
structure StateD where
  clock : Int
  users : List UserD
  polls : List PollD
  done : List DoneD
structure AskD where
  kind : Int
  caller : Int
  number : Int
  user : Int
  id : Int
  settings : SettingsD
  event : EventD
  query : QueryD
  cursor : ByteArray
  count : Int
  poll : Int
  slot : Int
  yes : Bool
  until_ : Int

/-- A slice value reads as a row, each element by R. -/
def Row {α : Type} (w : World) (k : Nat) (R : List Value → α → Prop) (v : Value) (xs : List α) : Prop :=
  ∃ (o : Option Addr) (n c : Nat), v = .slice o n c ∧ (o = none → c = 0) ∧ xs.length = n ∧ n ≤ c ∧ c ≤ maxLen ∧
    ∀ (i : Nat) (x : α), xs[i]? = some x → ∃ (a : Addr) (cs : List Value), o = some a ∧ cs.length = k ∧ (∀ j, j < k → w.cell? (a.add (i * k + j)) = cs[j]?) ∧ R cs x

def wfi (k : IntKind) (x : Int) : Prop := k.min ≤ x ∧ x ≤ k.max

def rI (k : IntKind) (cs : List Value) (x : Int) : Prop := cs = [.int k x] ∧ wfi k x
def rTurn (cs : List Value) (x : TurnD) : Prop := cs = [.int .i64 x.at_, .int .i64 x.off] ∧ wfi .i64 x.at_ ∧ wfi .i64 x.off
def rShift (cs : List Value) (x : ShiftD) : Prop := cs = [.int .i64 x.days, .int .i64 x.from_, .int .i64 x.to_] ∧ wfi .i64 x.days ∧ wfi .i64 x.from_ ∧ wfi .i64 x.to_
def rDayN (cs : List Value) (x : DayND) : Prop := cs = [.int .i64 x.n, .int .i64 x.day] ∧ wfi .i64 x.n ∧ wfi .i64 x.day
def rChange (cs : List Value) (x : ChangeD) : Prop := cs = [.int .i64 x.at_, .int .i64 x.start, .int .i64 x.long] ∧ wfi .i64 x.at_ ∧ wfi .i64 x.start ∧ wfi .i64 x.long
def rWanted (cs : List Value) (x : WantedD) : Prop := cs = [.int .u32 x.user, .int .i64 x.weight] ∧ wfi .u32 x.user ∧ wfi .i64 x.weight
def rPair (cs : List Value) (x : PairD) : Prop := cs = [.int .u32 x.a, .int .u32 x.b] ∧ wfi .u32 x.a ∧ wfi .u32 x.b
def rVote (cs : List Value) (x : VoteD) : Prop := cs = [.int .u32 x.user, .int .i64 x.slot] ∧ wfi .u32 x.user ∧ wfi .i64 x.slot
def rDone (cs : List Value) (x : DoneD) : Prop := cs = [.int .u32 x.caller, .int .u64 x.number, .int .u64 x.version] ∧ wfi .u32 x.caller ∧ wfi .u64 x.number ∧ wfi .u64 x.version

def rSettings (w : World) (cs : List Value) (x : SettingsD) : Prop := ∃ t h o : Value,
  cs = [.int .i64 x.base, t, h, o, .int .i64 x.before, .int .i64 x.after] ∧ wfi .i64 x.base ∧ wfi .i64 x.before ∧ wfi .i64 x.after ∧
  Row w 2 rTurn t x.turns ∧ Row w 3 rShift h x.shifts ∧ Row w 1 (rI .i64) o x.offs
def rRule (w : World) (cs : List Value) (x : RuleD) : Prop := ∃ m d y p : Value,
  cs = [.int .i64 x.freq, .int .i64 x.interval, .int .i64 x.count, .int .i64 x.until_, m, d, y, p, .int .i64 x.start] ∧
  wfi .i64 x.freq ∧ wfi .i64 x.interval ∧ wfi .i64 x.count ∧ wfi .i64 x.until_ ∧ wfi .i64 x.start ∧
  Row w 1 (rI .i64) m x.byMonth ∧ Row w 1 (rI .i64) d x.byMonthDay ∧ Row w 2 rDayN y x.byDay ∧ Row w 1 (rI .i64) p x.bySetPos
def rEvent (w : World) (cs : List Value) (x : EventD) : Prop := ∃ (r : List Value) (e p c : Value),
  cs = .int .i64 x.start :: .int .i64 x.long :: .bool x.world :: .bool x.again :: (r ++ [e, p, c]) ∧ wfi .i64 x.start ∧ wfi .i64 x.long ∧
  rRule w r x.rule ∧ Row w 1 (rI .i64) e x.ex ∧ Row w 1 (rI .i64) p x.plus ∧ Row w 3 rChange c x.changes
def rEntry (w : World) (cs : List Value) (x : EntryD) : Prop := ∃ e : List Value, cs = .int .u32 x.id :: e ∧ wfi .u32 x.id ∧ rEvent w e x.event
def rUser (w : World) (cs : List Value) (x : UserD) : Prop := ∃ (s : List Value) (v : Value),
  cs = .int .u32 x.id :: (s ++ [.int .u64 x.version, v]) ∧ wfi .u32 x.id ∧ wfi .u64 x.version ∧ rSettings w s x.settings ∧ Row w 17 (rEntry w) v x.events
def rQuery (w : World) (cs : List Value) (x : QueryD) : Prop := ∃ m y a p : Value,
  cs = [.int .i64 x.from_, .int .i64 x.to_, .int .i64 x.long, .int .i64 x.grid, m, y, .int .i64 x.seats, a, p] ∧
  wfi .i64 x.from_ ∧ wfi .i64 x.to_ ∧ wfi .i64 x.long ∧ wfi .i64 x.grid ∧ wfi .i64 x.seats ∧
  Row w 1 (rI .u32) m x.must ∧ Row w 2 rWanted y x.may ∧ Row w 2 rPair a x.apart ∧ Row w 3 rShift p x.prefer
def rPoll (w : World) (cs : List Value) (x : PollD) : Prop := ∃ (q : List Value) (s v : Value),
  cs = .int .u32 x.id :: .int .u32 x.owner :: (q ++ [s, v, .int .i64 x.until_, .int .i64 x.state, .int .i64 x.winner]) ∧
  wfi .u32 x.id ∧ wfi .u32 x.owner ∧ wfi .i64 x.until_ ∧ wfi .i64 x.state ∧ wfi .i64 x.winner ∧
  rQuery w q x.query ∧ Row w 1 (rI .i64) s x.slots ∧ Row w 2 rVote v x.votes
def rState (w : World) (cs : List Value) (x : StateD) : Prop := ∃ u p d : Value,
  cs = [.int .i64 x.clock, u, p, d] ∧ wfi .i64 x.clock ∧ Row w 9 (rUser w) u x.users ∧ Row w 16 (rPoll w) p x.polls ∧ Row w 3 rDone d x.done
def rAsk (w : World) (cs : List Value) (x : AskD) : Prop := ∃ s e q : List Value,
  cs = .int .i64 x.kind :: .int .u32 x.caller :: .int .u64 x.number :: .int .u32 x.user :: .int .u32 x.id :: (s ++ (e ++ (q ++ [.string x.cursor, .int .i64 x.count, .int .u32 x.poll, .int .i64 x.slot, .bool x.yes, .int .i64 x.until_]))) ∧
  wfi .i64 x.kind ∧ wfi .u32 x.caller ∧ wfi .u64 x.number ∧ wfi .u32 x.user ∧ wfi .u32 x.id ∧ wfi .i64 x.count ∧ wfi .u32 x.poll ∧ wfi .i64 x.slot ∧ wfi .i64 x.until_ ∧ x.cursor.size ≤ maxLen ∧
  rSettings w s x.settings ∧ rEvent w e x.event ∧ rQuery w q x.query

section
variable {w w' : World}
theorem Row.later {α : Type} {k : Nat} {R R' : List Value → α → Prop} {v : Value} {xs : List α} (hb : Below w.heap.size w w') (hR : ∀ cs x, R cs x → R' cs x) : Row w k R v xs → Row w' k R' v xs := by
  rintro ⟨o, n, c, h1, h0, h2, h3, h4, h5⟩
  refine ⟨o, n, c, h1, h0, h2, h3, h4, fun i x hx => ?_⟩
  obtain ⟨a, cs, ha, hc, hj, hr⟩ := h5 i x hx
  refine ⟨a, cs, ha, hc, fun j hk => ?_, hR _ _ hr⟩
  have hs : cs[j]? = some (cs[j]'(by omega)) := List.getElem?_eq_getElem (by omega)
  have hx := hj j hk
  rw [hs] at hx
  rw [hb.cell (World.block_lt_of_cell? w _ hx), hx, hs]
theorem Row.later' {α : Type} {k : Nat} {R : List Value → α → Prop} {v : Value} {xs : List α} (hb : Below w.heap.size w w') (h : Row w k R v xs) : Row w' k R v xs := h.later hb fun _ _ a => a
theorem rSettings.later (hb : Below w.heap.size w w') : ∀ {cs : List Value} {x : SettingsD}, rSettings w cs x → rSettings w' cs x
  | _, _, ⟨t, h, o, a, b, c, d, e, f, g⟩ => ⟨t, h, o, a, b, c, d, e.later' hb, f.later' hb, g.later' hb⟩
theorem rRule.later (hb : Below w.heap.size w w') : ∀ {cs : List Value} {x : RuleD}, rRule w cs x → rRule w' cs x
  | _, _, ⟨m, d, y, p, a, b, c, d', e, f, g1, g2, g3, g4⟩ => ⟨m, d, y, p, a, b, c, d', e, f, g1.later' hb, g2.later' hb, g3.later' hb, g4.later' hb⟩
theorem rEvent.later (hb : Below w.heap.size w w') : ∀ {cs : List Value} {x : EventD}, rEvent w cs x → rEvent w' cs x
  | _, _, ⟨r, e, p, c, a, b, d, h, g1, g2, g3⟩ => ⟨r, e, p, c, a, b, d, h.later hb, g1.later' hb, g2.later' hb, g3.later' hb⟩
theorem rEntry.later (hb : Below w.heap.size w w') : ∀ {cs : List Value} {x : EntryD}, rEntry w cs x → rEntry w' cs x
  | _, _, ⟨e, a, b, h⟩ => ⟨e, a, b, h.later hb⟩
theorem rUser.later (hb : Below w.heap.size w w') : ∀ {cs : List Value} {x : UserD}, rUser w cs x → rUser w' cs x
  | _, _, ⟨s, v, a, b, c, h, g⟩ => ⟨s, v, a, b, c, h.later hb, g.later hb fun _ _ => rEntry.later hb⟩
theorem rQuery.later (hb : Below w.heap.size w w') : ∀ {cs : List Value} {x : QueryD}, rQuery w cs x → rQuery w' cs x
  | _, _, ⟨m, y, a, p, e, b, c, d, f, g, g1, g2, g3, g4⟩ => ⟨m, y, a, p, e, b, c, d, f, g, g1.later' hb, g2.later' hb, g3.later' hb, g4.later' hb⟩
theorem rPoll.later (hb : Below w.heap.size w w') : ∀ {cs : List Value} {x : PollD}, rPoll w cs x → rPoll w' cs x
  | _, _, ⟨q, s, v, e, a, b, c, d, f, h, g1, g2⟩ => ⟨q, s, v, e, a, b, c, d, f, h.later hb, g1.later' hb, g2.later' hb⟩
theorem rState.later (hb : Below w.heap.size w w') : ∀ {cs : List Value} {x : StateD}, rState w cs x → rState w' cs x
  | _, _, ⟨u, p, d, e, a, g1, g2, g3⟩ => ⟨u, p, d, e, a, g1.later hb fun _ _ => rUser.later hb, g2.later hb fun _ _ => rPoll.later hb, g3.later' hb⟩
theorem rAsk.later (hb : Below w.heap.size w w') : ∀ {cs : List Value} {x : AskD}, rAsk w cs x → rAsk w' cs x
  | _, _, ⟨s, e, q, h, a1, a2, a3, a4, a5, a6, a7, a8, a9, a10, g1, g2, g3⟩ => ⟨s, e, q, h, a1, a2, a3, a4, a5, a6, a7, a8, a9, a10, g1.later hb, g2.later hb, g3.later hb⟩

theorem add_off (a : Addr) (i : Nat) {j : Nat} (hj : 0 < j) : a.add (i + j) = ⟨(a.add i).block, (a.add i).off + j, none⟩ := by
  rw [← Go.Deep.add_add]
  generalize a.add i = b
  unfold Addr.add
  rw [if_neg (by omega)]

/-- A row's elements, as a walk meets their cells: the first at the element's place, the others behind it. -/
theorem Row.view {α : Type} {k : Nat} {R : List Value → α → Prop} {v : Value} {xs : List α} (h : Row w k R v xs) :
    ∃ (o : Option Addr) (n c : Nat), v = .slice o n c ∧ xs.length = n ∧ n ≤ c ∧ c ≤ maxLen ∧
    ∀ (i : Nat), i < n → ∃ (x : α) (a : Addr) (cs : List Value), xs[i]? = some x ∧ o = some a ∧ cs.length = k ∧ R cs x ∧ (0 < k → w.cell? (a.add (i * k)) = cs[0]?) ∧
      ∀ j, 0 < j → j < k → w.cell? ⟨(a.add (i * k)).block, (a.add (i * k)).off + j, none⟩ = cs[j]? := by
  obtain ⟨o, n, c, h1, _, h2, h3, h4, h5⟩ := h
  refine ⟨o, n, c, h1, h2, h3, h4, fun i hi => ?_⟩
  have hs : xs[i]? = some (xs[i]'(by omega)) := List.getElem?_eq_getElem (by omega)
  obtain ⟨a, cs, q1, q2, q3, q4⟩ := h5 i _ hs
  exact ⟨_, a, cs, hs, q1, q2, q4, fun hk => q3 0 hk, fun j hj hk => by rw [← q3 j hk, add_off _ _ hj]⟩
theorem Row.open {α : Type} {k : Nat} {R : List Value → α → Prop} {v : Value} {xs : List α} (h : Row w k R v xs) :
    ∃ (o : Option Addr) (n c : Nat), v = .slice o n c ∧ xs.length = n ∧ n ≤ c ∧ c ≤ maxLen ∧ Row w k R (.slice o n c) xs := by
  have h' := h
  obtain ⟨o, n, c, rfl, _, h2, h3, h4, _⟩ := h
  exact ⟨o, n, c, rfl, h2, h3, h4, h'⟩
theorem Row.nil_ {α : Type} {k : Nat} {R : List Value → α → Prop} {n c : Nat} {xs : List α} (h : Row w k R (.slice none n c) xs) : n = 0 ∧ c = 0 ∧ xs = [] := by
  obtain ⟨o, n', c', e, h0, h2, h3, _⟩ := h
  simp only [Value.slice.injEq] at e
  obtain ⟨rfl, rfl, rfl⟩ := e
  have := h0 rfl
  have hn : n = 0 := by omega
  subst hn
  exact ⟨rfl, this, List.eq_nil_of_length_eq_zero h2⟩
theorem Row.len {α : Type} {k : Nat} {R : List Value → α → Prop} {o : Option Addr} {n c : Nat} {xs : List α} (h : Row w k R (.slice o n c) xs) : xs.length = n := by
  obtain ⟨o', n', c', e, _, h2, _⟩ := h
  simp only [Value.slice.injEq] at e
  obtain ⟨rfl, rfl, rfl⟩ := e
  exact h2
theorem Row.elem {α : Type} {k : Nat} {R : List Value → α → Prop} {o : Option Addr} {n c : Nat} {xs : List α} (h : Row w k R (.slice o n c) xs) {W : World} (hb : Below w.heap.size w W) (i : Nat) (hi : i < n) :
    ∃ (x : α) (a : Addr) (cs : List Value), xs[i]? = some x ∧ o = some a ∧ cs.length = k ∧ R cs x ∧ (0 < k → W.cell? (a.add (i * k)) = cs[0]?) ∧
      ∀ j, 0 < j → j < k → W.cell? ⟨(a.add (i * k)).block, (a.add (i * k)).off + j, none⟩ = cs[j]? := by
  obtain ⟨o', n', c', e, h2, h3, h4, h5⟩ := (h.later' hb).view
  simp only [Value.slice.injEq] at e
  obtain ⟨rfl, rfl, rfl⟩ := e
  exact h5 i hi
end

/-! ### From shapes -/
theorem wfi_of {k : IntKind} {n : Int} (h : (Lit.int k n).wf = true) : wfi k n := by
  simpa [Lit.wf, wfi] using h

theorem Row.of_rd {α : Type} {w : World} {k : Nat} {R : List Value → Dt → Prop} {R' : List Value → α → Prop} {v : Value} {rows : List Dt} (h : RdS w k R v rows) (hR : ∀ cs d, R cs d → ∃ x, R' cs x) : ∃ xs, Row w k R' v xs := by
  rcases h with ⟨rfl, rfl⟩ | ⟨a, n, c, rfl, hl, h1, h2, h3⟩
  · exact ⟨[], none, 0, 0, rfl, fun _ => rfl, rfl, Nat.le_refl _, Nat.zero_le _, fun i x hx => by simp at hx⟩
  · have hex : ∀ i : Fin n, ∃ x : α, ∃ cs : List Value, cs.length = k ∧ (∀ j, j < k → w.cell? (a.add (i * k + j)) = cs[j]?) ∧ R' cs x := fun i => by
      obtain ⟨cs, a1, a2, a3⟩ := h3 i i.2
      obtain ⟨x, hx⟩ := hR _ _ a3
      exact ⟨x, cs, a1, a2, hx⟩
    refine ⟨List.ofFn fun i => Classical.choose (hex i), some a, n, c, rfl, fun e => by simp at e, by simp, h1, h2, fun i x hx => ?_⟩
    have hi : i < n := by
      have := (List.getElem?_eq_some_iff.1 hx).1
      simpa using this
    have hx' : x = Classical.choose (hex ⟨i, hi⟩) := by
      rw [List.getElem?_eq_some_iff] at hx
      obtain ⟨_, hx⟩ := hx
      simpa using hx.symm
    obtain ⟨cs, b1, b2, b3⟩ := Classical.choose_spec (hex ⟨i, hi⟩)
    exact ⟨a, cs, rfl, b1, b2, hx' ▸ b3⟩

abbrev I (r : Sh) : Sh := .int .i64 r
abbrev U (r : Sh) : Sh := .int .u32 r
abbrev shI : Sh := I .nil
abbrev shU : Sh := U .nil
abbrev sh2 : Sh := I (I .nil)
abbrev sh3 : Sh := I (I (I .nil))
def shSettings (r : Sh) : Sh := I (.sl sh2 (.sl sh3 (.sl shI (I (I r)))))
def shRule (r : Sh) : Sh := I (I (I (I (.sl shI (.sl shI (.sl sh2 (.sl shI (I r))))))))
def shEvent (r : Sh) : Sh := I (I (.bool (.bool (shRule (.sl shI (.sl shI (.sl sh3 r)))))))
def shUser (r : Sh) : Sh := U (shSettings (.int .u64 (.sl (U (shEvent .nil)) r)))
def shQuery (r : Sh) : Sh := I (I (I (I (.sl shU (.sl (U (I .nil)) (I (.sl (U (U .nil)) (.sl sh3 r))))))))
def shPoll (r : Sh) : Sh := U (U (shQuery (.sl shI (.sl (U (I .nil)) (I (I (I r)))))))
def shState (r : Sh) : Sh := I (.sl (shUser .nil) (.sl (shPoll .nil) (.sl (U (.int .u64 (.int .u64 .nil))) r)))
def shAsk (r : Sh) : Sh := I (U (.int .u64 (U (U (shSettings (shEvent (shQuery (.str (I (U (I (.bool (I r)))))))))))))

section
variable {w : World}
theorem rd_i {k : IntKind} {cs : List Value} {d : Dt} : Rd w (.int k .nil) cs d → ∃ x, rI k cs x := by
  rintro ⟨n, _, _, rfl, _, h, rfl, _⟩; exact ⟨n, rfl, wfi_of h⟩
theorem rd_turn {cs : List Value} {d : Dt} : Rd w sh2 cs d → ∃ x, rTurn cs x := by
  rintro ⟨n, _, _, rfl, _, h, m, _, _, rfl, _, h', rfl, _⟩; exact ⟨⟨n, m⟩, rfl, wfi_of h, wfi_of h'⟩
theorem rd_dayN {cs : List Value} {d : Dt} : Rd w sh2 cs d → ∃ x, rDayN cs x := by
  rintro ⟨n, _, _, rfl, _, h, m, _, _, rfl, _, h', rfl, _⟩; exact ⟨⟨n, m⟩, rfl, wfi_of h, wfi_of h'⟩
theorem rd_wanted {cs : List Value} {d : Dt} : Rd w (U (I .nil)) cs d → ∃ x, rWanted cs x := by
  rintro ⟨n, _, _, rfl, _, h, m, _, _, rfl, _, h', rfl, _⟩; exact ⟨⟨n, m⟩, rfl, wfi_of h, wfi_of h'⟩
theorem rd_vote {cs : List Value} {d : Dt} : Rd w (U (I .nil)) cs d → ∃ x, rVote cs x := by
  rintro ⟨n, _, _, rfl, _, h, m, _, _, rfl, _, h', rfl, _⟩; exact ⟨⟨n, m⟩, rfl, wfi_of h, wfi_of h'⟩
theorem rd_pair {cs : List Value} {d : Dt} : Rd w (U (U .nil)) cs d → ∃ x, rPair cs x := by
  rintro ⟨n, _, _, rfl, _, h, m, _, _, rfl, _, h', rfl, _⟩; exact ⟨⟨n, m⟩, rfl, wfi_of h, wfi_of h'⟩
theorem rd_shift {cs : List Value} {d : Dt} : Rd w sh3 cs d → ∃ x, rShift cs x := by
  rintro ⟨n, _, _, rfl, _, h, m, _, _, rfl, _, h', l, _, _, rfl, _, h'', rfl, _⟩; exact ⟨⟨n, m, l⟩, rfl, wfi_of h, wfi_of h', wfi_of h''⟩
theorem rd_change {cs : List Value} {d : Dt} : Rd w sh3 cs d → ∃ x, rChange cs x := by
  rintro ⟨n, _, _, rfl, _, h, m, _, _, rfl, _, h', l, _, _, rfl, _, h'', rfl, _⟩; exact ⟨⟨n, m, l⟩, rfl, wfi_of h, wfi_of h', wfi_of h''⟩
theorem rd_done {cs : List Value} {d : Dt} : Rd w (U (.int .u64 (.int .u64 .nil))) cs d → ∃ x, rDone cs x := by
  rintro ⟨n, _, _, rfl, _, h, m, _, _, rfl, _, h', l, _, _, rfl, _, h'', rfl, _⟩; exact ⟨⟨n, m, l⟩, rfl, wfi_of h, wfi_of h', wfi_of h''⟩

theorem rd_settings {r : Sh} {cs : List Value} {d : Dt} (h : Rd w (shSettings r) cs d) : ∃ x cs1 cs2 d2, cs = cs1 ++ cs2 ∧ rSettings w cs1 x ∧ Rd w r cs2 d2 := by
  unfold shSettings at h
  obtain ⟨n1, _, _, rfl, _, w1, v1, _, _, _, rfl, _, s1, v2, _, _, _, rfl, _, s2, v3, _, _, _, rfl, _, s3, n2, _, _, rfl, _, w2, n3, cs2, d2, rfl, _, w3, h⟩ := h
  obtain ⟨x1, t1⟩ := Row.of_rd (R' := rTurn) s1 fun _ _ => rd_turn
  obtain ⟨x2, t2⟩ := Row.of_rd (R' := rShift) s2 fun _ _ => rd_shift
  obtain ⟨x3, t3⟩ := Row.of_rd (R' := rI .i64) s3 fun _ _ => rd_i
  exact ⟨⟨n1, x1, x2, x3, n2, n3⟩, [_, _, _, _, _, _], cs2, d2, rfl, ⟨_, _, _, rfl, wfi_of w1, wfi_of w2, wfi_of w3, t1, t2, t3⟩, h⟩

theorem rd_rule {r : Sh} {cs : List Value} {d : Dt} (h : Rd w (shRule r) cs d) : ∃ x cs1 cs2 d2, cs = cs1 ++ cs2 ∧ rRule w cs1 x ∧ Rd w r cs2 d2 := by
  unfold shRule at h
  obtain ⟨n1, _, _, rfl, _, w1, n2, _, _, rfl, _, w2, n3, _, _, rfl, _, w3, n4, _, _, rfl, _, w4, v1, _, _, _, rfl, _, s1, v2, _, _, _, rfl, _, s2, v3, _, _, _, rfl, _, s3, v4, _, _, _, rfl, _, s4, n5, cs2, d2, rfl, _, w5, h⟩ := h
  obtain ⟨x1, t1⟩ := Row.of_rd (R' := rI .i64) s1 fun _ _ => rd_i
  obtain ⟨x2, t2⟩ := Row.of_rd (R' := rI .i64) s2 fun _ _ => rd_i
  obtain ⟨x3, t3⟩ := Row.of_rd (R' := rDayN) s3 fun _ _ => rd_dayN
  obtain ⟨x4, t4⟩ := Row.of_rd (R' := rI .i64) s4 fun _ _ => rd_i
  exact ⟨⟨n1, n2, n3, n4, x1, x2, x3, x4, n5⟩, [_, _, _, _, _, _, _, _, _], cs2, d2, rfl, ⟨_, _, _, _, rfl, wfi_of w1, wfi_of w2, wfi_of w3, wfi_of w4, wfi_of w5, t1, t2, t3, t4⟩, h⟩

theorem rd_event {r : Sh} {cs : List Value} {d : Dt} (h : Rd w (shEvent r) cs d) : ∃ x cs1 cs2 d2, cs = cs1 ++ cs2 ∧ rEvent w cs1 x ∧ Rd w r cs2 d2 := by
  unfold shEvent at h
  obtain ⟨n1, _, _, rfl, _, w1, n2, _, _, rfl, _, w2, b1, _, _, rfl, _, b2, _, _, rfl, _, h⟩ := h
  obtain ⟨x, c1, _, _, rfl, hx, v1, _, _, _, rfl, _, s1, v2, _, _, _, rfl, _, s2, v3, cs2, _, d2, rfl, _, s3, h⟩ := rd_rule h
  obtain ⟨x1, t1⟩ := Row.of_rd (R' := rI .i64) s1 fun _ _ => rd_i
  obtain ⟨x2, t2⟩ := Row.of_rd (R' := rI .i64) s2 fun _ _ => rd_i
  obtain ⟨x3, t3⟩ := Row.of_rd (R' := rChange) s3 fun _ _ => rd_change
  exact ⟨⟨n1, n2, b1, b2, x, x1, x2, x3⟩, _ :: _ :: _ :: _ :: (c1 ++ [_, _, _]), cs2, d2, by simp only [List.cons_append, List.append_assoc, List.nil_append], ⟨_, _, _, _, rfl, wfi_of w1, wfi_of w2, hx, t1, t2, t3⟩, h⟩

theorem rd_entry {cs : List Value} {d : Dt} (h : Rd w (U (shEvent .nil)) cs d) : ∃ x, rEntry w cs x := by
  obtain ⟨n1, _, _, rfl, _, w1, h⟩ := h
  obtain ⟨x, c1, _, _, rfl, hx, rfl, _⟩ := rd_event h
  exact ⟨⟨n1, x⟩, c1, by simp, wfi_of w1, hx⟩

theorem rd_user {cs : List Value} {d : Dt} (h : Rd w (shUser .nil) cs d) : ∃ x, rUser w cs x := by
  unfold shUser at h
  obtain ⟨n1, _, _, rfl, _, w1, h⟩ := h
  obtain ⟨x, c1, _, _, rfl, hx, n2, _, _, rfl, _, w2, v1, _, _, _, rfl, _, s1, rfl, _⟩ := rd_settings h
  obtain ⟨x1, t1⟩ := Row.of_rd (R' := rEntry w) s1 fun _ _ => rd_entry
  exact ⟨⟨n1, x, n2, x1⟩, c1, v1, rfl, wfi_of w1, wfi_of w2, hx, t1⟩

theorem rd_query {r : Sh} {cs : List Value} {d : Dt} (h : Rd w (shQuery r) cs d) : ∃ x cs1 cs2 d2, cs = cs1 ++ cs2 ∧ rQuery w cs1 x ∧ Rd w r cs2 d2 := by
  unfold shQuery at h
  obtain ⟨n1, _, _, rfl, _, w1, n2, _, _, rfl, _, w2, n3, _, _, rfl, _, w3, n4, _, _, rfl, _, w4, v1, _, _, _, rfl, _, s1, v2, _, _, _, rfl, _, s2, n5, _, _, rfl, _, w5, v3, _, _, _, rfl, _, s3, v4, cs2, _, d2, rfl, _, s4, h⟩ := h
  obtain ⟨x1, t1⟩ := Row.of_rd (R' := rI .u32) s1 fun _ _ => rd_i
  obtain ⟨x2, t2⟩ := Row.of_rd (R' := rWanted) s2 fun _ _ => rd_wanted
  obtain ⟨x3, t3⟩ := Row.of_rd (R' := rPair) s3 fun _ _ => rd_pair
  obtain ⟨x4, t4⟩ := Row.of_rd (R' := rShift) s4 fun _ _ => rd_shift
  exact ⟨⟨n1, n2, n3, n4, x1, x2, n5, x3, x4⟩, [_, _, _, _, _, _, _, _, _], cs2, d2, rfl, ⟨_, _, _, _, rfl, wfi_of w1, wfi_of w2, wfi_of w3, wfi_of w4, wfi_of w5, t1, t2, t3, t4⟩, h⟩

theorem rd_poll {cs : List Value} {d : Dt} (h : Rd w (shPoll .nil) cs d) : ∃ x, rPoll w cs x := by
  unfold shPoll at h
  obtain ⟨n1, _, _, rfl, _, w1, n2, _, _, rfl, _, w2, h⟩ := h
  obtain ⟨x, c1, _, _, rfl, hx, v1, _, _, _, rfl, _, s1, v2, _, _, _, rfl, _, s2, n3, _, _, rfl, _, w3, n4, _, _, rfl, _, w4, n5, _, _, rfl, _, w5, rfl, _⟩ := rd_query h
  obtain ⟨x1, t1⟩ := Row.of_rd (R' := rI .i64) s1 fun _ _ => rd_i
  obtain ⟨x2, t2⟩ := Row.of_rd (R' := rVote) s2 fun _ _ => rd_vote
  exact ⟨⟨n1, n2, x, x1, x2, n3, n4, n5⟩, c1, v1, v2, rfl, wfi_of w1, wfi_of w2, wfi_of w3, wfi_of w4, wfi_of w5, hx, t1, t2⟩

theorem rd_state {cs : List Value} {d : Dt} (h : Rd w (shState .nil) cs d) : ∃ x, rState w cs x := by
  unfold shState at h
  obtain ⟨n1, _, _, rfl, _, w1, v1, _, _, _, rfl, _, s1, v2, _, _, _, rfl, _, s2, v3, _, _, _, rfl, _, s3, rfl, _⟩ := h
  obtain ⟨x1, t1⟩ := Row.of_rd (R' := rUser w) s1 fun _ _ => rd_user
  obtain ⟨x2, t2⟩ := Row.of_rd (R' := rPoll w) s2 fun _ _ => rd_poll
  obtain ⟨x3, t3⟩ := Row.of_rd (R' := rDone) s3 fun _ _ => rd_done
  exact ⟨⟨n1, x1, x2, x3⟩, v1, v2, v3, rfl, wfi_of w1, t1, t2, t3⟩

theorem rd_ask {cs : List Value} {d : Dt} (h : Rd w (shAsk .nil) cs d) : ∃ x, rAsk w cs x := by
  unfold shAsk at h
  obtain ⟨n1, _, _, rfl, _, w1, n2, _, _, rfl, _, w2, n3, _, _, rfl, _, w3, n4, _, _, rfl, _, w4, n5, _, _, rfl, _, w5, h⟩ := h
  obtain ⟨x, c1, _, _, rfl, hx, h⟩ := rd_settings h
  obtain ⟨y, c2, _, _, rfl, hy, h⟩ := rd_event h
  obtain ⟨z, c3, _, _, rfl, hz, s, _, _, rfl, _, ws, n6, _, _, rfl, _, w6, n7, _, _, rfl, _, w7, n8, _, _, rfl, _, w8, b, _, _, rfl, _, n9, _, _, rfl, _, w9, rfl, _⟩ := rd_query h
  exact ⟨⟨n1, n2, n3, n4, n5, x, y, z, s, n6, n7, n8, b, n9⟩, c1, c2, c3, rfl, wfi_of w1, wfi_of w2, wfi_of w3, wfi_of w4, wfi_of w5, wfi_of w6, wfi_of w7, wfi_of w8, wfi_of w9, ws, hx, hy, hz⟩
end
end Go.Proofs.YtechgcjdigpglaaGreat
