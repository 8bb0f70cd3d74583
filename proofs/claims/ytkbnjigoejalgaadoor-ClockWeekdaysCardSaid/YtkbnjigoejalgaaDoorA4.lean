/- Walks of the clock's functions and what they compute; part A4 of the proof of the laws of layer 3. Conditions: each theorem's own. -/
import Derived.Test.YtkbnjigoejalgaaDoorA3
namespace Go.Proofs.YtkbnjigoejalgaaDoor
open Go.RowKit

def ll : List Int → List Int → Bool
  | _, [] => false
  | [], _ :: _ => true
  | a :: x, b :: y => decide (a < b) || (decide (a = b) && ll x y)

theorem ll_bytes (x : List Int) : ∀ (y : List Int), (∀ c ∈ x, 0 ≤ c ∧ c < 256) → (∀ c ∈ y, 0 ≤ c ∧ c < 256) →
    Op.bytesLess (x.map fun n => UInt8.ofNat n.toNat) (y.map fun n => UInt8.ofNat n.toNat) = ll x y := by
  induction x with
  | nil => intro y _ _; cases y <;> simp [Op.bytesLess, ll]
  | cons a x ih =>
    intro y hx hy
    cases y with
    | nil => simp [Op.bytesLess, ll]
    | cons b y =>
      have ha := hx a (by simp)
      have hb := hy b (by simp)
      have e1 : decide (UInt8.ofNat a.toNat < UInt8.ofNat b.toNat) = decide (a < b) := by
        rw [decide_eq_decide, UInt8.lt_iff_toNat_lt, UInt8.toNat_ofNat', UInt8.toNat_ofNat']; omega
      have e2 : (UInt8.ofNat a.toNat == UInt8.ofNat b.toNat) = decide (a = b) := by
        rw [Bool.eq_iff_iff, beq_iff_eq, decide_eq_true_iff, ← UInt8.toNat_inj, UInt8.toNat_ofNat', UInt8.toNat_ofNat']; omega
      simp only [List.map_cons, Op.bytesLess, ll]
      rw [ih y (fun c hc => hx c (by simp [hc])) (fun c hc => hy c (by simp [hc])), e2]
      congr 1

theorem ll_append (a : List Int) : ∀ (b c d : List Int), a.length = b.length → (ll (a ++ c) (b ++ d) = true ↔ ll a b = true ∨ a = b ∧ ll c d = true) := by
  induction a with
  | nil => intro b c d h; cases b with
    | nil => simp [ll]
    | cons => simp at h
  | cons x a ih =>
    intro b c d hl
    cases b with
    | nil => simp at hl
    | cons y b =>
      have := ih b c d (by simpa using hl)
      simp only [List.cons_append, ll, Bool.or_eq_true, Bool.and_eq_true, decide_eq_true_eq, this, List.cons.injEq]
      constructor
      · rintro (h | ⟨rfl, h | ⟨rfl, h⟩⟩)
        · exact .inl (.inl h)
        · exact .inl (.inr ⟨rfl, h⟩)
        · exact .inr ⟨⟨rfl, rfl⟩, h⟩
      · rintro ((h | ⟨rfl, h⟩) | ⟨⟨rfl, rfl⟩, h⟩)
        · exact .inl h
        · exact .inr ⟨rfl, .inl h⟩
        · exact .inr ⟨rfl, .inr ⟨rfl, h⟩⟩

theorem ll_cons (x : Int) (c d : List Int) : (ll (x :: c) (x :: d) = true) ↔ ll c d = true := by simp [ll]

theorem digs_inj (k : Nat) : ∀ (x y : Int), 0 ≤ x → 0 ≤ y → x < 10 ^ k → y < 10 ^ k → (digs x k = digs y k ↔ x = y) := by
  induction k with
  | zero => intro x y _ _ h1 h2; simp at h1 h2; constructor <;> (intro; first | omega | (simp [digs]))
  | succ k ih =>
    intro x y hx hy h1 h2
    have p : (10 : Int) ^ (k + 1) = 10 ^ k * 10 := Int.pow_succ _ _
    have := ih (x / 10) (y / 10) (by omega) (by omega) (by omega) (by omega)
    constructor
    · intro h
      have h' := List.append_inj h (by simp [digs_length])
      have a := this.1 h'.1
      have b := h'.2
      simp at b
      omega
    · rintro rfl; rfl

theorem digs_ll (k : Nat) : ∀ (x y : Int), 0 ≤ x → 0 ≤ y → x < 10 ^ k → y < 10 ^ k → (ll (digs x k) (digs y k) = true ↔ x < y) := by
  induction k with
  | zero => intro x y _ _ h1 h2; simp at h1 h2; simp [digs, ll]; omega
  | succ k ih =>
    intro x y hx hy h1 h2
    have p : (10 : Int) ^ (k + 1) = 10 ^ k * 10 := Int.pow_succ _ _
    have i1 := ih (x / 10) (y / 10) (by omega) (by omega) (by omega) (by omega)
    have i2 := digs_inj k (x / 10) (y / 10) (by omega) (by omega) (by omega) (by omega)
    rw [digs, digs, ll_append _ _ _ _ (by simp [digs_length]), i1, i2]
    simp [ll]
    omega

theorem minText_ll (x y : Int) (hx : 0 ≤ x) (hy : 0 ≤ y) (h1 : x ≤ 1440) (h2 : y ≤ 1440) : ll (minText x) (minText y) = true ↔ x < y := by
  unfold minText
  rw [ll_append _ _ _ _ (by simp [digs_length]), ll_cons, digs_ll 2 _ _ (by omega) (by omega) (by omega) (by omega), digs_inj 2 _ _ (by omega) (by omega) (by omega) (by omega), digs_ll 2 _ _ (by omega) (by omega) (by omega) (by omega)]
  omega

/-- The number of the day on which a month begins, months counted from March of the year 0 on. -/
def mBegin (y m : Int) : Int := era y + march m
theorem mBegin_lt (y1 m1 y2 m2 : Int) (h1 : 0 ≤ m1 ∧ m1 ≤ 11) (h2 : 0 ≤ m2 ∧ m2 ≤ 11) (h : 12 * y1 + m1 < 12 * y2 + m2) (d : Int)
    (hd : (m1 < 11 → d ≤ march (m1 + 1) - march m1) ∧ (m1 = 11 → d ≤ era (y1 + 1) - mBegin y1 11)) : mBegin y1 m1 + d ≤ mBegin y2 m2 := by
  unfold mBegin at *
  by_cases e : y1 = y2
  · subst e
    have := hd.1 (by omega)
    unfold march at *; omega
  · have := era_mono (y1 + 1) y2 (by omega)
    by_cases hm : m1 < 11
    · have := hd.1 hm
      have := era_step y1
      unfold march at *; omega
    · have e11 : m1 = 11 := by omega
      subst e11
      have := hd.2 rfl
      unfold march at *; omega

theorem date_lt (a b : Int) (ha : 0 ≤ a ∧ a < 109938) (hb : 0 ≤ b ∧ b < 109938) (h : a < b) :
    dateY a < dateY b ∨ dateY a = dateY b ∧ (dateM a < dateM b ∨ dateM a = dateM b ∧ dD a < dD b) := by
  have ya := yOf_spec (a + 693901) (by omega) (by omega)
  have yb := yOf_spec (b + 693901) (by omega) (by omega)
  have da := dM_bd a ha.1 ha.2
  have db := dM_bd b hb.1 hb.2
  have ea : mBegin (yOf (a + 693901)) (dM a) + dD a = a + 693902 := by unfold mBegin dD dRest; omega
  have eb : mBegin (yOf (b + 693901)) (dM b) + dD b = b + 693902 := by unfold mBegin dD dRest; omega
  have hlast : dM b = 11 → dD b ≤ era (yOf (b + 693901) + 1) - mBegin (yOf (b + 693901)) 11 := by
    intro e
    rw [e] at eb
    omega
  have key : ¬ (12 * yOf (b + 693901) + dM b < 12 * yOf (a + 693901) + dM a) := by
    intro hlt
    have := mBegin_lt _ _ _ _ ⟨db.1, db.2.1⟩ ⟨da.1, da.2.1⟩ hlt (dD b) ⟨db.2.2.2.2, hlast⟩
    omega
  have same : yOf (a + 693901) = yOf (b + 693901) → dM a = dM b → dD a < dD b := by
    intro e1 e2
    rw [e1, e2] at ea
    omega
  unfold dateY dateM
  clear ea eb hlast
  generalize yOf (a + 693901) = y1 at *
  generalize yOf (b + 693901) = y2 at *
  split <;> split <;> omega

theorem stampText_ll (a b : Int) (ha : 0 ≤ a ∧ a ≤ 158310720) (hb : 0 ≤ b ∧ b ≤ 158310720) : ll (stampText a) (stampText b) = true ↔ a < b := by
  have da : 0 ≤ sDay a ∧ sDay a < 109938 ∧ 0 ≤ sMin a ∧ sMin a ≤ 1440 ∧ a = 1440 * sDay a + sMin a ∧ (sMin a = 1440 → sDay a = 109937) := by unfold sDay sMin; split <;> omega
  have db : 0 ≤ sDay b ∧ sDay b < 109938 ∧ 0 ≤ sMin b ∧ sMin b ≤ 1440 ∧ b = 1440 * sDay b + sMin b ∧ (sMin b = 1440 → sDay b = 109937) := by unfold sDay sMin; split <;> omega
  have ba := date_bd (sDay a) da.1 da.2.1
  have bb := date_bd (sDay b) db.1 db.2.1
  unfold stampText
  rw [ll_append _ _ _ _ (by simp [digs_length]), ll_cons, ll_append _ _ _ _ (by simp [digs_length]), ll_cons, ll_append _ _ _ _ (by simp [digs_length]), ll_cons,
    digs_ll 4 _ _ (by omega) (by omega) (by omega) (by omega), digs_inj 4 _ _ (by omega) (by omega) (by omega) (by omega),
    digs_ll 2 _ _ (by omega) (by omega) (by omega) (by omega), digs_inj 2 _ _ (by omega) (by omega) (by omega) (by omega),
    digs_ll 2 _ _ (by omega) (by omega) (by omega) (by omega), digs_inj 2 _ _ (by omega) (by omega) (by omega) (by omega),
    minText_ll _ _ (by omega) (by omega) (by omega) (by omega)]
  rcases Int.lt_trichotomy (sDay a) (sDay b) with h | h | h
  · have := date_lt _ _ ⟨da.1, da.2.1⟩ ⟨db.1, db.2.1⟩ h
    omega
  · rw [h]; omega
  · have := date_lt _ _ ⟨db.1, db.2.1⟩ ⟨da.1, da.2.1⟩ h
    omega

theorem digs_byte (k : Nat) : ∀ (n : Int), ∀ c ∈ digs n k, 0 ≤ c ∧ c < 256 := by
  induction k with
  | zero => intro n c h; simp [digs] at h
  | succ k ih => intro n c h; rw [digs, List.mem_append] at h; rcases h with h | h; exact ih _ _ h; simp at h; omega

theorem minText_byte (n : Int) : ∀ c ∈ minText n, 0 ≤ c ∧ c < 256 := by
  intro c h
  simp only [minText, List.mem_append, List.mem_cons] at h
  rcases h with h | rfl | h
  · exact digs_byte _ _ _ h
  · decide
  · exact digs_byte _ _ _ h

theorem stampText_byte (n : Int) : ∀ c ∈ stampText n, 0 ≤ c ∧ c < 256 := by
  intro c h
  simp only [stampText, List.mem_append, List.mem_cons] at h
  rcases h with h | rfl | h | rfl | h | rfl | h
  · exact digs_byte _ _ _ h
  · decide
  · exact digs_byte _ _ _ h
  · decide
  · exact digs_byte _ _ _ h
  · decide
  · exact minText_byte _ _ h

end Go.Proofs.YtkbnjigoejalgaaDoor
