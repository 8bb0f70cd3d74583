/- law: plain laws of members: the sorted list is one; the chapter's example. law: fixed. -/
import Derived.Test.YtechgcjdigpglaaGreatQ13
import Derived.Test.YtechgcjdigpglaaGreatQ14
import Derived.Test.YtechgcjdigpglaaGreatQ15
namespace Go.Proofs.YtechgcjdigpglaaGreat
open Go.RowKit Go.ChangeShapes Go.WideShapes Go.Deep
set_option linter.all false

theorem members_any (cz ce : List Value) (z : ZoneD) (e : EventD) (f t : Int) (w : World) (hz : rZone w cz z) (h : rEvent w ce e) (hf : fewE e) (hnz : z.turns.length ≤ 1000) :
    Calls Tryz.prog 16 #[.agg cz.toArray, .agg ce.toArray, .agg #[.int .i64 f, .int .i64 t]] w (MemEnd z e f t w) := by
  by_cases hok : askOk z e f t
  · cases hw : e.world with
    | true => exact members_world cz ce z e f t w hz h hf hnz hok hw
    | false => exact members_own cz ce z e f t w hz h hf hnz hok hw
  · exact members_no cz ce z e f t w hz h hf hnz hok

theorem spLe_anti {a b : Int × Int} (h1 : spLe a b) (h2 : spLe b a) : a = b := by
  obtain ⟨a1, a2⟩ := a; obtain ⟨b1, b2⟩ := b
  unfold spLe at *
  simp only at *
  rw [Prod.mk.injEq]; omega
theorem sorted_one : ∀ {l m : List (Int × Int)}, l.Perm m → l.Pairwise spLe → m.Pairwise spLe → l = m
  | [], m, hp, _, _ => (List.Perm.nil_eq hp)
  | a :: l, [], hp, _, _ => by have := hp.length_eq; simp at this
  | a :: l, b :: m, hp, h1, h2 => by
    rw [List.pairwise_cons] at h1 h2
    have e : a = b := by
      have ha : a ∈ b :: m := hp.mem_iff.1 (List.mem_cons_self ..)
      have hb : b ∈ a :: l := hp.mem_iff.2 (List.mem_cons_self ..)
      rcases List.mem_cons.1 ha with h | h
      · exact h
      · rcases List.mem_cons.1 hb with h' | h'
        · exact h'.symm
        · exact spLe_anti (h1.1 b h') (h2.1 a h)
    subst e
    rw [sorted_one (hp.cons_inv) h1.2 h2.2]
theorem rise_one : ∀ {l m : List Int}, l.Pairwise (· < ·) → m.Pairwise (· < ·) → (∀ x, x ∈ l ↔ x ∈ m) → l = m
  | [], [], _, _, _ => rfl
  | [], b :: m, _, _, h => absurd ((h b).2 (List.mem_cons_self ..)) (by simp)
  | a :: l, [], _, _, h => absurd ((h a).1 (List.mem_cons_self ..)) (by simp)
  | a :: l, b :: m, h1, h2, h => by
    rw [List.pairwise_cons] at h1 h2
    have e : a = b := by
      rcases List.mem_cons.1 ((h a).1 (List.mem_cons_self ..)) with e | ha
      · exact e
      · rcases List.mem_cons.1 ((h b).2 (List.mem_cons_self ..)) with e | hb
        · exact e.symm
        · have := h1.1 b hb; have := h2.1 a ha; omega
    subst e
    rw [rise_one h1.2 h2.2 fun x => ?_]
    have hx := h x
    rw [List.mem_cons, List.mem_cons] at hx
    constructor
    · intro hl
      rcases hx.1 (.inr hl) with e | hm
      · have := h1.1 x hl; omega
      · exact hm
    · intro hm
      rcases hx.2 (.inr hm) with e | hl
      · have := h2.1 x hm; omega
      · exact hl

/-- A zone without turns. -/
theorem atZ_still {b : Int} (h0 : -900 ≤ b) (h1 : b ≤ 900) (l : Int) : atZ ⟨b, []⟩ l = l - b := by
  have hm : mayZ ⟨b, []⟩ := ⟨h0, h1, by simp, fun t ht => by simp at ht, fun i a b hi => by simp at hi⟩
  rcases atZ_is hm l with ⟨h, _⟩ | ⟨_, i, t, h, _⟩
  · have : offZ ⟨b, []⟩ (atZ ⟨b, []⟩ l) = b := by unfold offZ; rfl
    omega
  · simp at h

def fixR : RuleD := ⟨1, 1, 0, -1, [], [], [], [], 0⟩
def fixE : EventD := ⟨600, 30, false, true, fixR, [], [], [⟨2040, 2040, 0⟩]⟩
def fixZ : ZoneD := ⟨0, []⟩
theorem rises_nil : rises [] := fun i a b h => by simp at h
theorem fix_rule : mayR fixR := by
  refine ⟨by decide, by decide, by decide, by decide, ⟨by decide, by decide, .inl rfl⟩, ⟨(fun x h => by cases h), rises_nil⟩, ⟨(fun x h => by cases h), rises_nil⟩, .inl (by decide), ⟨(fun x h => by cases h), fun i a b h => by simp [fixR] at h⟩, ⟨(fun x h => by cases h), rises_nil⟩, .inr rfl, by decide, by decide⟩
theorem fix_may : mayE fixE := by
  refine ⟨⟨by decide, by decide⟩, by decide, by decide, (fun h => by cases h), fun _ => ⟨rfl, fix_rule, ⟨(fun x h => by cases h), rises_nil, by decide⟩, ⟨(fun x h => by cases h), rises_nil, by decide⟩, fun c hc => ?_, ⟨fun x hx => ?_, fun i a b ha hb => ?_, by decide⟩⟩⟩
  · obtain rfl := List.mem_singleton.1 hc; exact ⟨⟨by decide, by decide⟩, by decide, by decide⟩
  · obtain rfl := List.mem_singleton.1 (show x ∈ [(2040 : Int)] from hx); exact ⟨by decide, by decide⟩
  · have := (List.getElem?_eq_some_iff.1 hb).1; simp [fixE] at this
theorem fix_cand : ∀ (f k : Nat) (n : Int), (k : Int) ≤ n → n < (k : Int) + f → n < 109938 → n ∈ candF fixR 0 k f
  | 0, k, n, h1, h2, _ => by omega
  | f + 1, k, n, h1, h2, h3 => by
    have e : (k : Int) * fixR.interval = (k : Int) := by simp [fixR]
    have hmore : moreP fixR 0 (k : Int) := by unfold moreP; rw [if_pos (show fixR.freq = 1 from rfl)]; omega
    rw [candF, e, if_pos (dec_t hmore), List.mem_append]
    by_cases hk : n = (k : Int)
    · subst hk
      left
      have hp : placesF fixR (periodF fixR 0 (k : Int)) = periodF fixR 0 (k : Int) := by unfold placesF; rw [if_pos (show fixR.bySetPos = [] from rfl)]
      rw [List.mem_filter, hp]
      refine ⟨?_, by simp⟩
      unfold periodF
      rw [if_pos (show fixR.freq = 1 from rfl), mem_daysF]
      exact ⟨⟨by omega, by omega, by omega⟩, h3, ⟨.inl rfl, .inl rfl, .inl rfl⟩, (fun h => by cases h), (fun h => by cases h), (fun h => by cases h)⟩
    · exact .inr (fix_cand f (k + 1) n (by omega) (by omega) h3)
theorem fix_times (x : Int) (h1 : x < 100000) : x ∈ allT fixR 600 ↔ ∃ n : Int, 0 ≤ n ∧ x = n * 1440 + 600 := by
  constructor
  · intro h
    obtain ⟨⟨n, hn⟩, h2, _⟩ := mem_allT fix_rule ⟨by decide, by decide⟩ h
    exact ⟨n, by omega, by omega⟩
  · rintro ⟨n, h0, rfl⟩
    show _ ∈ timesF fixR 0 600 0
    unfold timesF
    rw [cutG_until (by decide) _ _ (by
      rw [List.pairwise_map]
      exact (cand_all (r := fixR) (s := 0) (by decide) (by decide) (by decide) (by decide) _ 0).1.imp (fun h => by omega))]
    rw [List.mem_filter, List.mem_map]
    exact ⟨⟨n, fix_cand _ _ _ (by omega) (by omega) (by omega), rfl⟩, rfl⟩
theorem fix_ask : askOk fixZ fixE 0 4320 := ⟨fix_may, ⟨by decide, by decide, by decide, (fun t ht => by cases ht), fun i a b hi => absurd hi (by simp [fixZ])⟩, by decide, by decide, by decide, by decide⟩
theorem fix_members {L : List (Int × Int)} (h : MemIs fixZ fixE 0 4320 L) (hs : L.Pairwise spLe) : L = [(600, 630), (3480, 3510)] := by
  obtain ⟨l, l1, l2, hp⟩ := h.own fix_ask rfl
  have hl : l = [600, 3480, 4920] := rise_one l1 (by simp) fun x => by
    rw [l2]
    unfold plnP struckE changedE
    constructor
    · rintro ⟨⟨h1, h2⟩, _, h3⟩
      obtain ⟨h4, h5⟩ := h3 rfl
      have h6 : x ≠ 2040 := fun e => h5 (.inr ⟨⟨2040, 2040, 0⟩, List.mem_singleton.2 rfl, e.symm⟩)
      have h7 : x ∈ allT fixR 600 := h4.resolve_right (by intro h; cases h)
      obtain ⟨n, hn, e⟩ := (fix_times x (by simp [fixE] at h2; omega)).1 h7
      have : x < 6120 := by simpa using h2
      have : x = 600 ∨ x = 3480 ∨ x = 4920 := by omega
      simpa using this
    · intro hx
      have h8 : x = 600 ∨ x = 3480 ∨ x = 4920 := by simpa using hx
      refine ⟨⟨by simp [fixE]; omega, by simp; omega⟩, (fun h => by cases h), fun _ => ⟨.inl ((fix_times x (by omega)).2 ⟨(x - 600) / 1440, by omega, by omega⟩), ?_⟩⟩
      rintro (h | ⟨c, hc, e⟩)
      · cases h
      · obtain rfl := List.mem_singleton.1 hc
        simp at e
        omega
  have hz : ∀ x, atZ fixZ x = x := fun x => by have := atZ_still (b := 0) (by decide) (by decide) x; simpa [fixZ] using this
  have hch : ((fixE.changes.filter fun c => dec (atE fixE c.at_)).flatMap fun c => memF fixZ c.start c.long 0 4320) = [] := by
    rw [List.flatMap_eq_nil_iff]
    intro c hc
    have := (List.mem_filter.1 hc).1
    obtain rfl := List.mem_singleton.1 this
    unfold memF
    rw [if_neg (fun h => h.2.1 rfl)]
  have hml : (l.flatMap fun x => memF fixZ x fixE.long 0 4320) = [(600, 630), (3480, 3510)] := by
    rw [hl]
    simp only [List.flatMap_cons, List.flatMap_nil]
    unfold memF
    rw [hz, hz, hz]
    rfl
  rw [hch, hml, List.append_nil] at hp
  exact sorted_one hp hs (by simp [spLe])
end Go.Proofs.YtechgcjdigpglaaGreat
namespace Go.Proofs.YtechgcjdigpglaaGreat
open Go.RowKit Go.ChangeShapes Go.WideShapes Go.Deep
set_option linter.all false

theorem own_cell {w : World} {B : Nat} {e : TypeId} {z n : Nat} {v : Value} {xs : List Value} (h : w.ownsRow B e z v n xs) (hn : 0 < n) : ∃ g cap, v = .slice (some ⟨g, 0, none⟩) n cap ∧ g < w.heap.size ∧ n ≤ cap ∧ ∀ j u, xs[j]? = some u → w.cell? ⟨g, j, none⟩ = some u := by
  obtain ⟨h1, ⟨_, h2⟩ | ⟨g, cap, cur, rfl, _, a2, a3, _, a4, a5⟩⟩ := h
  · omega
  · refine ⟨g, cap, rfl, (Array.getElem?_eq_some_iff.1 a2).1, a3, fun j u hj => ?_⟩
    have hjl : j < n * z := by have := (List.getElem?_eq_some_iff.1 hj).1; omega
    rw [← a5, List.getElem?_take, if_pos hjl, Array.getElem?_toList] at hj
    simp only [World.cell?, a2]
    simpa using hj
theorem wfi_small {x : Int} (h0 : -9000000000 ≤ x) (h1 : x ≤ 9000000000) : wfi .i64 x := wfi_days h0 h1

set_option maxHeartbeats 8000000 in
set_option maxRecDepth 100000 in
theorem fixed_any (w : World) : Calls Tryz.prog 12 #[] w fun e w' => e = .returned (.bool true) ∧ Below w.heap.size w w' := by
  obtain ⟨W, hW⟩ : ∃ W, W = (w.alloc (.cells #[.int .i64 2040, .int .i64 2040, .int .i64 0] 44)).alloc (.cells #[.int .i64 600, .int .i64 30, .bool false, .bool true, .int .i64 1, .int .i64 1, .int .i64 0, .int .i64 (-1), .slice none 0 0, .slice none 0 0, .slice none 0 0, .slice none 0 0, .int .i64 0, .slice none 0 0, .slice none 0 0, .slice (some ⟨w.heap.size, 0, none⟩) 1 1] 32) := ⟨_, rfl⟩
  have HB := Lib.hid (show Below w.heap.size w W by rw [hW]; exact belowA _ (belowA _ (Below.refl _ _)))
  have hch : W.ownsRow w.heap.size 44 3 (.slice (some ⟨w.heap.size, 0, none⟩) 1 1) 1 [.int .i64 2040, .int .i64 2040, .int .i64 0] := by
    rw [hW]
    refine World.ownsRow.alloc ?_ _
    exact ⟨rfl, .inr ⟨w.heap.size, 1, #[.int .i64 2040, .int .i64 2040, .int .i64 0], rfl, Nat.le_refl _, heap_new _ _ _ rfl, Nat.le_refl _, by unfold maxLen; omega, rfl, rfl⟩⟩
  have hrow : Row W 3 rChange (.slice (some ⟨w.heap.size, 0, none⟩) 1 1) [⟨2040, 2040, 0⟩] :=
    row_own (xs := [(⟨2040, 2040, 0⟩ : ChangeD)]) (fun c => [.int .i64 c.at_, .int .i64 c.start, .int .i64 c.long]) rChange hch fun x hx => by
      obtain rfl := List.mem_singleton.1 hx
      exact ⟨rfl, rfl, wfi_small (by decide) (by decide), wfi_small (by decide) (by decide), wfi_small (by decide) (by decide)⟩
  have hev : rEvent W [.int .i64 600, .int .i64 30, .bool false, .bool true, .int .i64 1, .int .i64 1, .int .i64 0, .int .i64 (-1), .slice none 0 0, .slice none 0 0, .slice none 0 0, .slice none 0 0, .int .i64 0, .slice none 0 0, .slice none 0 0, .slice (some ⟨w.heap.size, 0, none⟩) 1 1] fixE :=
    ⟨[.int .i64 1, .int .i64 1, .int .i64 0, .int .i64 (-1), .slice none 0 0, .slice none 0 0, .slice none 0 0, .slice none 0 0, .int .i64 0], .slice none 0 0, .slice none 0 0, .slice (some ⟨w.heap.size, 0, none⟩) 1 1, rfl, wfi_small (by decide) (by decide), wfi_small (by decide) (by decide),
      ⟨_, _, _, _, rfl, wfi_small (by decide) (by decide), wfi_small (by decide) (by decide), wfi_small (by decide) (by decide), wfi_small (by decide) (by decide), wfi_small (by decide) (by decide), nil_row _ _ _, nil_row _ _ _, nil_row _ _ _, nil_row _ _ _⟩, nil_row _ _ _, nil_row _ _ _, hrow⟩
  have hzn : rZone W [.int .i64 0, .slice none 0 0] fixZ := ⟨_, rfl, wfi_small (by decide) (by decide), nil_row _ _ _⟩
  have C := Lib.hid (members_any _ _ fixZ fixE 0 4320 W hzn hev ⟨⟨by decide, by decide, by decide, by decide⟩, by decide, by decide, by decide⟩ (by decide))
  rw [hW] at C HB
  clear hch hrow hev hzn hW W
  go_enter Tryz.func12, Tryz.ntmps12
  go_wp2_with fail
  (with_reducible refine C.out.mono ?_)
  rintro q w1 ⟨v, L, rfl, ho, hs, hm, hb⟩
  obtain rfl := fix_members hm hs
  obtain ⟨g, cap, rfl, hg, hcap, hc⟩ := own_cell ho (by decide)
  have k0 := hc 0 _ rfl
  have k1 := hc 1 _ rfl
  have k2 := hc 2 _ rfl
  have k3 := hc 3 _ rfl
  have HB1 := Lib.hid (HB.out.trans (hb.mono HB.out.size))
  clear ho hs hm hb hc
  go_wp2_with fail
  go_ret
  exact ⟨rfl, HB1.out⟩
end Go.Proofs.YtechgcjdigpglaaGreat
