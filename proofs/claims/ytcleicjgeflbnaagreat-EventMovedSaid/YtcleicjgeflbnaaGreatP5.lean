/- law: EventMoved, plain: an event that comes once has one member. law: EventMoved, the walk. law: EventMoved, as its row wants it. -/
import Derived.Test.YtcleicjgeflbnaaGreatP2
namespace Go.Proofs.YtcleicjgeflbnaaGreat
open Go.RowKit Go.ChangeShapes Go.WideShapes Go.Deep
set_option linter.all false

/-- An event that comes once. -/
def onceE (start long : Int) : EventD := ⟨start, long, false, false, nilR, [], [], []⟩
theorem once_may {start long : Int} (h : startOk start) (h1 : 1 ≤ long) (h2 : long ≤ 10080) : mayE (onceE start long) :=
  ⟨h, h1, h2, fun _ => ⟨rfl, rfl, rfl, rfl⟩, fun h => by cases h⟩
theorem once_members {base start long f t : Int} {L : List (Int × Int)} (h : MemIs ⟨base, []⟩ (onceE start long) f t L) (hs : L.Pairwise spLe) (hb0 : -900 ≤ base) (hb1 : base ≤ 900) (h0 : 900 ≤ start) (h1 : start ≤ 158000000) (hl : 1 ≤ long) (hl2 : long ≤ 10080)
    (hf : f + 1000 ≤ start) (ht : start + 1000 ≤ t) (hw : t - f ≤ 528480) (hf0 : -1099511627776 ≤ f) (ht1 : t ≤ 1099511627776) : L = [(start - base, start - base + long)] := by
  have hok : askOk ⟨base, []⟩ (onceE start long) f t := ⟨once_may ⟨by omega, by omega⟩ hl hl2, ⟨hb0, hb1, by simp, (fun t ht => by cases ht), fun i a b hi => absurd hi (by simp)⟩, by omega, hf0, ht1, hw⟩
  obtain ⟨l, l1, l2, hp⟩ := h.own hok rfl
  have hle : l = [start] := rise_one l1 (List.pairwise_singleton _ _) fun x => by
    rw [l2, List.mem_singleton]
    unfold plnP
    constructor
    · exact fun h => h.2.1 rfl
    · rintro rfl
      exact ⟨⟨by show f - long - 1800 ≤ _; omega, by omega⟩, (fun _ => rfl), fun h => by cases h⟩
  have hz := atZ_still hb0 hb1 start
  rw [hle] at hp
  have e : ([start].flatMap fun x => memF ⟨base, []⟩ x (onceE start long).long f t) = [(start - base, start - base + long)] := by
    simp only [List.flatMap_cons, List.flatMap_nil, List.append_nil]
    unfold memF
    rw [hz, if_pos ⟨⟨by omega, by omega⟩, by show long ≠ 0; omega, by omega, by show f < start - base + long; omega⟩]
    rfl
  rw [e] at hp
  exact sorted_one hp hs (List.pairwise_singleton _ _)
end Go.Proofs.YtcleicjgeflbnaaGreat
namespace Go.Proofs.YtcleicjgeflbnaaGreat
open Go.RowKit Go.ChangeShapes Go.WideShapes Go.Deep
set_option linter.all false

theorem once_reads (W : World) (s l : Int) (h1 : wfi .i64 s) (h2 : wfi .i64 l) : rEvent W [.int .i64 s, .int .i64 l, .bool false, .bool false, .int .i64 0, .int .i64 0, .int .i64 0, .int .i64 0, .slice none 0 0, .slice none 0 0, .slice none 0 0, .slice none 0 0, .int .i64 0, .slice none 0 0, .slice none 0 0, .slice none 0 0] (onceE s l) :=
  ⟨[.int .i64 0, .int .i64 0, .int .i64 0, .int .i64 0, .slice none 0 0, .slice none 0 0, .slice none 0 0, .slice none 0 0, .int .i64 0], .slice none 0 0, .slice none 0 0, .slice none 0 0, rfl, h1, h2, nilR_reads W, nil_row _ _ _, nil_row _ _ _, nil_row _ _ _⟩
theorem once_few {s l : Int} : fewE (onceE s l) := ⟨⟨by show (0 : Nat) ≤ _; omega, by show (0 : Nat) ≤ _; omega, by show (0 : Nat) ≤ _; omega, by show (0 : Nat) ≤ _; omega⟩, by show (0 : Nat) ≤ _; omega, by show (0 : Nat) ≤ _; omega, by show (0 : Nat) ≤ _; omega⟩

set_option maxHeartbeats 40000000 in
set_option maxRecDepth 100000 in
theorem moved_any (base start long by_ more : Int) (w : World) :
    Calls Tryz.prog 6 #[.int .i64 base, .int .i64 start, .int .i64 long, .int .i64 by_, .int .i64 more] w fun e w' => e = .returned (.bool true) ∧ Below w.heap.size w w' := by
  have FX := Lib.hid (fun W => fixed_any W)
  have HBZ := Lib.hid (show Below w.heap.size w (w.alloc (.cells #[.int .i64 base, .slice none 0 0] 24)) from belowA _ (Below.refl _ _))
  by_cases g0 : -900 ≤ base
  · by_cases g1 : base ≤ 900
    · by_cases g2 : 2000 ≤ start
      · by_cases g3 : start ≤ 100000000
        · by_cases g4 : 0 ≤ by_
          · by_cases g5 : by_ ≤ 500000
            · by_cases g6 : 1 ≤ long
              · by_cases g7 : long ≤ 5000
                · by_cases g8 : 0 ≤ more
                  · by_cases g9 : more ≤ 5000
                    · have e0 := decide_eq_false (p := base < -900) (by omega)
                      have e1 := decide_eq_false (p := 900 < base) (by omega)
                      have e2 := decide_eq_false (p := start < 2000) (by omega)
                      have e3 := decide_eq_false (p := 100000000 < start) (by omega)
                      have e4 := decide_eq_false (p := by_ < 0) (by omega)
                      have e5 := decide_eq_false (p := 500000 < by_) (by omega)
                      have e6 := decide_eq_false (p := long < 1) (by omega)
                      have e7 := decide_eq_false (p := 5000 < long) (by omega)
                      have e8 := decide_eq_false (p := more < 0) (by omega)
                      have e9 := decide_eq_false (p := 5000 < more) (by omega)
                      have va : wrap64 (start - 1000) = start - 1000 := by unfold wrap64; omega
                      have ua : IntKind.i64.wrap (start - 1000) = start - 1000 := by rw [IntKind.wrap_i64]; omega
                      have vb : wrap64 (start - 1000 + 527040) = start - 1000 + 527040 := by unfold wrap64; omega
                      have ub : IntKind.i64.wrap (start - 1000 + 527040) = start - 1000 + 527040 := by rw [IntKind.wrap_i64]; omega
                      have vc : wrap64 (start + by_) = start + by_ := by unfold wrap64; omega
                      have uc : IntKind.i64.wrap (start + by_) = start + by_ := by rw [IntKind.wrap_i64]; omega
                      have vd : wrap64 (long + more) = long + more := by unfold wrap64; omega
                      have ud : IntKind.i64.wrap (long + more) = long + more := by rw [IntKind.wrap_i64]; omega
                      have ve : wrap64 (start - base) = start - base := by unfold wrap64; omega
                      have ue : IntKind.i64.wrap (start - base) = start - base := by rw [IntKind.wrap_i64]; omega
                      have vf : wrap64 (start - base + long) = start - base + long := by unfold wrap64; omega
                      have uf : IntKind.i64.wrap (start - base + long) = start - base + long := by rw [IntKind.wrap_i64]; omega
                      have vg : wrap64 (start - base + by_) = start - base + by_ := by unfold wrap64; omega
                      have ug : IntKind.i64.wrap (start - base + by_) = start - base + by_ := by rw [IntKind.wrap_i64]; omega
                      have vh : wrap64 (start - base + long + by_) = start - base + long + by_ := by unfold wrap64; omega
                      have uh : IntKind.i64.wrap (start - base + long + by_) = start - base + long + by_ := by rw [IntKind.wrap_i64]; omega
                      have vi : wrap64 (start - base + long + by_ + more) = start - base + long + by_ + more := by unfold wrap64; omega
                      have ui : IntKind.i64.wrap (start - base + long + by_ + more) = start - base + long + by_ + more := by rw [IntKind.wrap_i64]; omega
                      have HB2 := Lib.hid (show Below w.heap.size w ((w.alloc (.cells #[.int .i64 base, .slice none 0 0] 24)).alloc (.cells #[.int .i64 (start - 1000), .int .i64 (start - 1000 + 527040)] 34)) from belowA _ (belowA _ (Below.refl _ _)))
                      have xz := BxAt.new w #[.int .i64 base, .slice none 0 0] 24
                      have xs := BxAt.new (w.alloc (.cells #[.int .i64 base, .slice none 0 0] 24)) #[.int .i64 (start - 1000), .int .i64 (start - 1000 + 527040)] 34
                      rw [show (w.alloc (.cells #[.int .i64 base, .slice none 0 0] 24)).heap.size = w.heap.size + 1 by simp] at xs
                      have XZ := Lib.hid (xz.below (belowA (.cells #[.int .i64 (start - 1000), .int .i64 (start - 1000 + 527040)] 34) (Below.refl _ _)))
                      have XS := Lib.hid xs
                      have WB : wfi .i64 base := wfi_small (by omega) (by omega)
                      have MA := Lib.hid (members_any _ _ ⟨base, []⟩ (onceE start long) (start - 1000) (start - 1000 + 527040) ((w.alloc (.cells #[.int .i64 base, .slice none 0 0] 24)).alloc (.cells #[.int .i64 (start - 1000), .int .i64 (start - 1000 + 527040)] 34)) ⟨_, rfl, WB, nil_row _ _ _⟩ (once_reads _ start long (wfi_small (by omega) (by omega)) (wfi_small (by omega) (by omega))) once_few (by simp))
                      have MB := Lib.hid (fun W => members_any _ _ ⟨base, []⟩ (onceE (start + by_) (long + more)) (start - 1000) (start - 1000 + 527040) W ⟨_, rfl, WB, nil_row _ _ _⟩ (once_reads _ (start + by_) (long + more) (wfi_small (by omega) (by omega)) (wfi_small (by omega) (by omega))) once_few (by simp))
                      have LA := Lib.hid (fun L (h : MemIs ⟨base, []⟩ (onceE start long) (start - 1000) (start - 1000 + 527040) L) hs => once_members h hs g0 g1 (by omega) (by omega) (by omega) (by omega) (by omega) (by omega) (by omega) (by omega) (by omega))
                      have LB := Lib.hid (fun L (h : MemIs ⟨base, []⟩ (onceE (start + by_) (long + more)) (start - 1000) (start - 1000 + 527040) L) hs => once_members h hs g0 g1 (by omega) (by omega) (by omega) (by omega) (by omega) (by omega) (by omega) (by omega) (by omega))
                      have HEQ := Lib.hid (show start + by_ - base = start - base + by_ ∧ start + by_ - base + (long + more) = start - base + long + by_ + more by omega)
                      clear xz xs WB g0 g1 g2 g3 g4 g5 g6 g7 g8 g9
                      go_enter Tryz.func6, Tryz.ntmps6
                      go_wp2_with fail
                      (with_reducible refine MA.out.mono ?_)
                      rintro q w3 ⟨va, La, rfl, hoa, hsa, hma, hba⟩
                      obtain rfl := LA.out _ hma hsa
                      obtain ⟨ga, ca, rfl, hga, hca, hkc⟩ := own_cell hoa (by simp)
                      have ka0_ := hkc 0 _ rfl
                      have ka1_ := hkc 1 _ rfl
                      have XZ3 := Lib.hid (XZ.out.below hba)
                      have XS3 := Lib.hid (XS.out.below hba)
                      have kZ := XZ3.out.cell
                      have kS := XS3.out.cell
                      have HB3 := Lib.hid (HB2.out.trans (hba.mono HB2.out.size))
                      have KA := Lib.hid (And.intro ka0_ ka1_)
                      clear hoa hsa hma hba hkc ka0_ ka1_
                      go_wp2_with fail
                      (with_reducible refine (MB.out _).mono ?_)
                      rintro q w4 ⟨vb, Lb, rfl, hob, hsb, hmb, hbb⟩
                      obtain rfl := LB.out _ hmb hsb
                      obtain ⟨gb, cb, rfl, hg2, hcb, hkc⟩ := own_cell hob (by simp)
                      have kb0 := hkc 0 _ rfl
                      have kb1 := hkc 1 _ rfl
                      have ka0 := (hbb.cell (p := ⟨ga, 0, none⟩) hga).trans KA.out.1
                      have ka1 := (hbb.cell (p := ⟨ga, 1, none⟩) hga).trans KA.out.2
                      have hga2 : ga < w4.heap.size := Nat.lt_of_lt_of_le hga hbb.size
                      have HB4 := Lib.hid (HB3.out.trans (hbb.mono HB3.out.size))
                      have bq1 : (start + by_ - base == start - base + by_) = true := beq_iff_eq.2 HEQ.out.1
                      have bq2 : (start + by_ - base + (long + more) == start - base + long + by_ + more) = true := beq_iff_eq.2 HEQ.out.2
                      clear hob hsb hmb hbb hkc KA kZ kS
                      go_wp2_with fail
                      refine wp_region_held_drew (S := (fun W' => W'.cell? ⟨ga, 0, none⟩ = some (.int .i64 (start - base)) ∧ W'.cell? ⟨ga, 1, none⟩ = some (.int .i64 (start - base + long)) ∧ W'.cell? ⟨gb, 0, none⟩ = some (.int .i64 (start + by_ - base)) ∧ W'.cell? ⟨gb, 1, none⟩ = some (.int .i64 (start + by_ - base + (long + more))))) (by kernel_rfl) (And.intro ka0 (And.intro ka1 (And.intro kb0 kb1))) (fun hHeld => ?_)
                      simp only [List.size_toArray, List.length_cons, List.length_nil, Nat.reduceAdd, Array.replicate_succ, Array.replicate_zero, List.push_toArray, List.nil_append, List.cons_append]
                      refine wpAnyH_ready (rs := [0]) (by kernel_rfl) (by simp) ?_
                      refine AllReadyH.cons rfl (fun K hK => ?_) AllReadyH.nil
                      have HK := Lib.hid hK
                      go_simp
                      (with_reducible refine (FX.out _).mono ?_); rintro q w5 ⟨rfl, hb5⟩; have hS5 := (show (fun W' => W'.cell? ⟨ga, 0, none⟩ = some (.int .i64 (start - base)) ∧ W'.cell? ⟨ga, 1, none⟩ = some (.int .i64 (start - base + long)) ∧ W'.cell? ⟨gb, 0, none⟩ = some (.int .i64 (start + by_ - base)) ∧ W'.cell? ⟨gb, 1, none⟩ = some (.int .i64 (start + by_ - base + (long + more)))) w5 from ⟨(hb5.cell hga2).trans ka0, (hb5.cell hga2).trans ka1, (hb5.cell hg2).trans kb0, (hb5.cell hg2).trans kb1⟩); have HB5 := Lib.hid (HB4.out.drew.trans (hb5.mono HB4.out.drew.size)); clear hb5
                      go_simp
                      refine HK.out _ _ hS5 (fun hHeld => ?_)
                      clear HK hK K
                      try simp only [Act.put, List.setIfInBounds_toArray, List.set_cons_zero, List.set_cons_succ]
                      refine wpAnyH_take (i := 1) (oi := ⟨some 97, _, _, _, _, _⟩) (v := ?_) rfl (by kernel_rfl) (by kernel_rfl) (by kernel_rfl) (fun _ _ _ h => h) (Or.inl ⟨by kernel_rfl, ?_⟩) (by assumption) ?_
                      rotate_left
                      · intro w hSw; (try dsimp only at hSw); go_simp; try with_reducible rfl
                      try simp only [Act.put, List.setIfInBounds_toArray, List.set_cons_zero, List.set_cons_succ]
                      refine wpAnyH_take (i := 2) (oi := ⟨some 98, _, _, _, _, _⟩) (v := ?_) rfl (by kernel_rfl) (by kernel_rfl) (by kernel_rfl) (fun _ _ _ h => h) (Or.inl ⟨by kernel_rfl, ?_⟩) (by assumption) ?_
                      rotate_left
                      · intro w hSw; (try dsimp only at hSw); go_simp; try with_reducible rfl
                      try simp only [Act.put, List.setIfInBounds_toArray, List.set_cons_zero, List.set_cons_succ]
                      refine wpAnyH_take (i := 3) (oi := ⟨some 99, _, _, _, _, _⟩) (v := ?_) rfl (by kernel_rfl) (by kernel_rfl) (by kernel_rfl) (fun _ _ _ h => h) (Or.inl ⟨by kernel_rfl, ?_⟩) (by assumption) ?_
                      rotate_left
                      · intro w hSw; (try dsimp only at hSw); go_simp; try with_reducible rfl
                      try simp only [Act.put, List.setIfInBounds_toArray, List.set_cons_zero, List.set_cons_succ]
                      refine wpAnyH_take (i := 4) (oi := ⟨some 100, _, _, _, _, _⟩) (v := ?_) rfl (by kernel_rfl) (by kernel_rfl) (by kernel_rfl) (fun _ _ _ h => h) (Or.inl ⟨by kernel_rfl, ?_⟩) (by assumption) ?_
                      rotate_left
                      · intro w hSw; (try dsimp only at hSw); go_simp; try with_reducible rfl
                      try simp only [Act.put, List.setIfInBounds_toArray, List.set_cons_zero, List.set_cons_succ]
                      refine wpAnyH_take (i := 5) (oi := ⟨some 101, _, _, _, _, _⟩) (v := ?_) rfl (by kernel_rfl) (by kernel_rfl) (by kernel_rfl) (fun _ _ _ h => h) (Or.inl ⟨by kernel_rfl, ?_⟩) (by assumption) ?_
                      rotate_left
                      · intro w hSw; (try dsimp only at hSw); go_simp; try with_reducible rfl
                      try simp only [Act.put, List.setIfInBounds_toArray, List.set_cons_zero, List.set_cons_succ]
                      refine wpAnyH_take (i := 6) (oi := ⟨some 102, _, _, _, _, _⟩) (v := ?_) rfl (by kernel_rfl) (by kernel_rfl) (by kernel_rfl) (fun _ _ _ h => h) (Or.inl ⟨by kernel_rfl, ?_⟩) (by assumption) ?_
                      rotate_left
                      · intro w hSw; (try dsimp only at hSw); go_simp; try with_reducible rfl
                      try simp only [Act.put, List.setIfInBounds_toArray, List.set_cons_zero, List.set_cons_succ]
                      refine wpAnyH_take (i := 7) (oi := ⟨some 103, _, _, _, _, _⟩) (v := ?_) rfl (by kernel_rfl) (by kernel_rfl) (by kernel_rfl) (fun _ _ _ h => h) (Or.inl ⟨by kernel_rfl, ?_⟩) (by assumption) ?_
                      rotate_left
                      · intro w hSw; (try dsimp only at hSw); go_simp; try with_reducible rfl
                      try simp only [Act.put, List.setIfInBounds_toArray, List.set_cons_zero, List.set_cons_succ]
                      refine wpAnyH_take (i := 8) (oi := ⟨some 104, _, _, _, _, _⟩) (v := ?_) rfl (by kernel_rfl) (by kernel_rfl) (by kernel_rfl) (fun _ _ _ h => h) (Or.inl ⟨by kernel_rfl, ?_⟩) (by assumption) ?_
                      rotate_left
                      · intro w hSw; (try dsimp only at hSw); go_simp; try with_reducible rfl
                      try simp only [Act.put, List.setIfInBounds_toArray, List.set_cons_zero, List.set_cons_succ]
                      refine wpAnyH_take (i := 9) (oi := ⟨some 105, _, _, _, _, _⟩) (v := ?_) rfl (by kernel_rfl) (by kernel_rfl) (by kernel_rfl) (fun _ _ _ h => h) (Or.inl ⟨by kernel_rfl, ?_⟩) (by assumption) ?_
                      rotate_left
                      · intro w hSw; (try dsimp only at hSw); go_simp; try with_reducible rfl
                      try simp only [Act.put, List.setIfInBounds_toArray, List.set_cons_zero, List.set_cons_succ]
                      refine wpAnyH_take (i := 10) (oi := ⟨some 106, _, _, _, _, _⟩) (v := ?_) rfl (by kernel_rfl) (by kernel_rfl) (by kernel_rfl) (fun _ _ _ h => h) (Or.inl ⟨by kernel_rfl, ?_⟩) (by assumption) ?_
                      rotate_left
                      · intro w hSw; (try dsimp only at hSw); go_simp; try with_reducible rfl
                      try simp only [Act.put, List.setIfInBounds_toArray, List.set_cons_zero, List.set_cons_succ]
                      refine wpAnyH_take (i := 11) (oi := ⟨some 107, _, _, _, _, _⟩) (v := ?_) rfl (by kernel_rfl) (by kernel_rfl) (by kernel_rfl) (fun _ _ _ h => h) (Or.inl ⟨by kernel_rfl, ?_⟩) (by assumption) ?_
                      rotate_left
                      · intro w hSw; (try dsimp only at hSw); go_simp; try with_reducible rfl
                      try simp only [Act.put, List.setIfInBounds_toArray, List.set_cons_zero, List.set_cons_succ]
                      refine wpAnyH_take (i := 12) (oi := ⟨some 108, _, _, _, _, _⟩) (v := ?_) rfl (by kernel_rfl) (by kernel_rfl) (by kernel_rfl) (fun _ _ _ h => h) (Or.inl ⟨by kernel_rfl, ?_⟩) (by assumption) ?_
                      rotate_left
                      · intro w hSw; (try dsimp only at hSw); go_simp; try with_reducible rfl
                      try simp only [Act.put, List.setIfInBounds_toArray, List.set_cons_zero, List.set_cons_succ]
                      refine wpAnyH_take (i := 13) (oi := ⟨some 109, _, _, _, _, _⟩) (v := ?_) rfl (by kernel_rfl) (by kernel_rfl) (by kernel_rfl) (fun _ _ _ h => h) (Or.inl ⟨by kernel_rfl, ?_⟩) (by assumption) ?_
                      rotate_left
                      · intro w hSw; (try dsimp only at hSw); go_simp; try with_reducible rfl
                      try simp only [Act.put, List.setIfInBounds_toArray, List.set_cons_zero, List.set_cons_succ]
                      refine wpAnyH_take (i := 14) (oi := ⟨some 110, _, _, _, _, _⟩) (v := ?_) rfl (by kernel_rfl) (by kernel_rfl) (by kernel_rfl) (fun _ _ _ h => h) (Or.inl ⟨by kernel_rfl, ?_⟩) (by assumption) ?_
                      rotate_left
                      · intro w hSw; (try dsimp only at hSw); go_simp; try with_reducible rfl
                      try simp only [Act.put, List.setIfInBounds_toArray, List.set_cons_zero, List.set_cons_succ]
                      refine wpAnyH_take (i := 15) (oi := ⟨some 111, _, _, _, _, _⟩) (v := ?_) rfl (by kernel_rfl) (by kernel_rfl) (by kernel_rfl) (fun _ _ _ h => h) (Or.inl ⟨by kernel_rfl, ?_⟩) (by assumption) ?_
                      rotate_left
                      · intro w hSw; (try dsimp only at hSw); go_simp; try with_reducible rfl
                      try simp only [Act.put, List.setIfInBounds_toArray, List.set_cons_zero, List.set_cons_succ]
                      refine wpAnyH_take (i := 16) (oi := ⟨some 112, _, _, _, _, _⟩) (v := ?_) rfl (by kernel_rfl) (by kernel_rfl) (by kernel_rfl) (fun _ _ _ h => h) (Or.inl ⟨by kernel_rfl, ?_⟩) (by assumption) ?_
                      rotate_left
                      · intro w hSw; (try dsimp only at hSw); go_simp; try with_reducible rfl
                      try simp only [Act.put, List.setIfInBounds_toArray, List.set_cons_zero, List.set_cons_succ]
                      refine wpAnyH_take (i := 17) (oi := ⟨some 113, _, _, _, _, _⟩) (v := ?_) rfl (by kernel_rfl) (by kernel_rfl) (by kernel_rfl) (fun _ _ _ h => h) (Or.inl ⟨by kernel_rfl, ?_⟩) (by assumption) ?_
                      rotate_left
                      · intro w hSw; (try dsimp only at hSw); go_simp; try with_reducible rfl
                      try simp only [Act.put, List.setIfInBounds_toArray, List.set_cons_zero, List.set_cons_succ]
                      refine wpAnyH_take (i := 18) (oi := ⟨some 114, _, _, _, _, _⟩) (v := ?_) rfl (by kernel_rfl) (by kernel_rfl) (by kernel_rfl) (fun _ _ _ h => h) (Or.inl ⟨by kernel_rfl, ?_⟩) (by assumption) ?_
                      rotate_left
                      · intro w hSw; (try dsimp only at hSw); go_simp; try with_reducible rfl
                      try simp only [Act.put, List.setIfInBounds_toArray, List.set_cons_zero, List.set_cons_succ]
                      refine wpAnyH_take (i := 19) (oi := ⟨some 115, _, _, _, _, _⟩) (v := ?_) rfl (by kernel_rfl) (by kernel_rfl) (by kernel_rfl) (fun _ _ _ h => h) (Or.inl ⟨by kernel_rfl, ?_⟩) (by assumption) ?_
                      rotate_left
                      · intro w hSw; (try dsimp only at hSw); go_simp; try with_reducible rfl
                      try simp only [Act.put, List.setIfInBounds_toArray, List.set_cons_zero, List.set_cons_succ]
                      refine wpAnyH_take (i := 20) (oi := ⟨some 116, _, _, _, _, _⟩) (v := ?_) rfl (by kernel_rfl) (by kernel_rfl) (by kernel_rfl) (fun _ _ _ h => h) (Or.inl ⟨by kernel_rfl, ?_⟩) (by assumption) ?_
                      rotate_left
                      · intro w hSw; (try dsimp only at hSw); go_simp; try with_reducible rfl
                      try simp only [Act.put, List.setIfInBounds_toArray, List.set_cons_zero, List.set_cons_succ]
                      refine wpAnyH_take (i := 21) (oi := ⟨some 117, _, _, _, _, _⟩) (v := ?_) rfl (by kernel_rfl) (by kernel_rfl) (by kernel_rfl) (fun _ _ _ h => h) (Or.inl ⟨by kernel_rfl, ?_⟩) (by assumption) ?_
                      rotate_left
                      · intro w hSw; (try dsimp only at hSw); go_simp; try with_reducible rfl
                      try simp only [Act.put, List.setIfInBounds_toArray, List.set_cons_zero, List.set_cons_succ]
                      refine wpAnyH_take (i := 22) (oi := ⟨some 118, _, _, _, _, _⟩) (v := ?_) rfl (by kernel_rfl) (by kernel_rfl) (by kernel_rfl) (fun _ _ _ h => h) (Or.inl ⟨by kernel_rfl, ?_⟩) (by assumption) ?_
                      rotate_left
                      · intro w hSw; (try dsimp only at hSw); go_simp; try with_reducible rfl
                      try simp only [Act.put, List.setIfInBounds_toArray, List.set_cons_zero, List.set_cons_succ]
                      refine wpAnyH_take (i := 23) (oi := ⟨some 119, _, _, _, _, _⟩) (v := ?_) rfl (by kernel_rfl) (by kernel_rfl) (by kernel_rfl) (fun _ _ _ h => h) (Or.inl ⟨by kernel_rfl, ?_⟩) (by assumption) ?_
                      rotate_left
                      · intro w hSw; (try dsimp only at hSw); go_simp; try with_reducible rfl
                      try simp only [Act.put, List.setIfInBounds_toArray, List.set_cons_zero, List.set_cons_succ]
                      refine wpAnyH_take (i := 24) (oi := ⟨some 120, _, _, _, _, _⟩) (v := ?_) rfl (by kernel_rfl) (by kernel_rfl) (by kernel_rfl) (fun _ _ _ h => h) (Or.inl ⟨by kernel_rfl, ?_⟩) (by assumption) ?_
                      rotate_left
                      · intro w hSw; (try dsimp only at hSw); go_simp; try with_reducible rfl
                      try simp only [Act.put, List.setIfInBounds_toArray, List.set_cons_zero, List.set_cons_succ]
                      refine wpAnyH_take (i := 25) (oi := ⟨some 121, _, _, _, _, _⟩) (v := ?_) rfl (by kernel_rfl) (by kernel_rfl) (by kernel_rfl) (fun _ _ _ h => h) (Or.inl ⟨by kernel_rfl, ?_⟩) (by assumption) ?_
                      rotate_left
                      · intro w hSw; (try dsimp only at hSw); go_simp; try with_reducible rfl
                      try simp only [Act.put, List.setIfInBounds_toArray, List.set_cons_zero, List.set_cons_succ]
                      refine wpAnyH_take (i := 26) (oi := ⟨some 122, _, _, _, _, _⟩) (v := ?_) rfl (by kernel_rfl) (by kernel_rfl) (by kernel_rfl) (fun _ _ _ h => h) (Or.inl ⟨by kernel_rfl, ?_⟩) (by assumption) ?_
                      rotate_left
                      · intro w hSw; (try dsimp only at hSw); go_simp; try with_reducible rfl
                      try simp only [Act.put, List.setIfInBounds_toArray, List.set_cons_zero, List.set_cons_succ]
                      refine wpAnyH_take (i := 27) (oi := ⟨some 123, _, _, _, _, _⟩) (v := ?_) rfl (by kernel_rfl) (by kernel_rfl) (by kernel_rfl) (fun _ _ _ h => h) (Or.inl ⟨by kernel_rfl, ?_⟩) (by assumption) ?_
                      rotate_left
                      · intro w hSw; (try dsimp only at hSw); go_simp; try with_reducible rfl
                      try simp only [Act.put, List.setIfInBounds_toArray, List.set_cons_zero, List.set_cons_succ]
                      refine wpAnyH_take (i := 28) (oi := ⟨some 124, _, _, _, _, _⟩) (v := ?_) rfl (by kernel_rfl) (by kernel_rfl) (by kernel_rfl) (fun _ _ _ h => h) (Or.inl ⟨by kernel_rfl, ?_⟩) (by assumption) ?_
                      rotate_left
                      · intro w hSw; (try dsimp only at hSw); go_simp; try with_reducible rfl
                      try simp only [Act.put, List.setIfInBounds_toArray, List.set_cons_zero, List.set_cons_succ]
                      refine wpAnyH_take (i := 29) (oi := ⟨some 125, _, _, _, _, _⟩) (v := ?_) rfl (by kernel_rfl) (by kernel_rfl) (by kernel_rfl) (fun _ _ _ h => h) (Or.inl ⟨by kernel_rfl, ?_⟩) (by assumption) ?_
                      rotate_left
                      · intro w hSw; (try dsimp only at hSw); go_simp; try with_reducible rfl
                      try simp only [Act.put, List.setIfInBounds_toArray, List.set_cons_zero, List.set_cons_succ]
                      refine wpAnyH_take (i := 30) (oi := ⟨some 126, _, _, _, _, _⟩) (v := ?_) rfl (by kernel_rfl) (by kernel_rfl) (by kernel_rfl) (fun _ _ _ h => h) (Or.inl ⟨by kernel_rfl, ?_⟩) (by assumption) ?_
                      rotate_left
                      · intro w hSw; (try dsimp only at hSw); go_simp; try with_reducible rfl
                      try simp only [Act.put, List.setIfInBounds_toArray, List.set_cons_zero, List.set_cons_succ]
                      refine wpAnyH_take (i := 31) (oi := ⟨some 127, _, _, _, _, _⟩) (v := ?_) rfl (by kernel_rfl) (by kernel_rfl) (by kernel_rfl) (fun _ _ _ h => h) (Or.inl ⟨by kernel_rfl, ?_⟩) (by assumption) ?_
                      rotate_left
                      · intro w hSw; (try dsimp only at hSw); go_simp; try with_reducible rfl
                      try simp only [Act.put, List.setIfInBounds_toArray, List.set_cons_zero, List.set_cons_succ]
                      refine wpAnyH_take (i := 32) (oi := ⟨some 128, _, _, _, _, _⟩) (v := ?_) rfl (by kernel_rfl) (by kernel_rfl) (by kernel_rfl) (fun _ _ _ h => h) (Or.inl ⟨by kernel_rfl, ?_⟩) (by assumption) ?_
                      rotate_left
                      · intro w hSw; (try dsimp only at hSw); go_simp; try with_reducible rfl
                      try simp only [Act.put, List.setIfInBounds_toArray, List.set_cons_zero, List.set_cons_succ]
                      refine wpAnyH_take (i := 33) (oi := ⟨some 129, _, _, _, _, _⟩) (v := ?_) rfl (by kernel_rfl) (by kernel_rfl) (by kernel_rfl) (fun _ _ _ h => h) (Or.inl ⟨by kernel_rfl, ?_⟩) (by assumption) ?_
                      rotate_left
                      · intro w hSw; (try dsimp only at hSw); go_simp; try with_reducible rfl
                      try simp only [Act.put, List.setIfInBounds_toArray, List.set_cons_zero, List.set_cons_succ]
                      refine wpAnyH_take (i := 34) (oi := ⟨some 10, _, _, _, _, _⟩) (v := ?_) rfl (by kernel_rfl) (by kernel_rfl) (by kernel_rfl) (fun _ _ _ h => h) (Or.inl ⟨by kernel_rfl, ?_⟩) (by assumption) ?_
                      rotate_left
                      · intro w hSw; (try dsimp only at hSw); go_simp; try with_reducible rfl
                      try simp only [Act.put, List.setIfInBounds_toArray, List.set_cons_zero, List.set_cons_succ]
                      refine wpAnyH_done (by kernel_rfl) ?_ _
                      go_wp2_with fail
                      go_ret
                      exact ⟨rfl, HB5.out⟩
                    · have n1 : 5000 < more := by omega
                      have d1 := decide_eq_true n1
                      have e0 := decide_eq_false (p := base < -900) (by omega)
                      have e1 := decide_eq_false (p := 900 < base) (by omega)
                      have e2 := decide_eq_false (p := start < 2000) (by omega)
                      have e3 := decide_eq_false (p := 100000000 < start) (by omega)
                      have e4 := decide_eq_false (p := by_ < 0) (by omega)
                      have e5 := decide_eq_false (p := 500000 < by_) (by omega)
                      have e6 := decide_eq_false (p := long < 1) (by omega)
                      have e7 := decide_eq_false (p := 5000 < long) (by omega)
                      have e8 := decide_eq_false (p := more < 0) (by omega)
                      clear n1 g0 g1 g2 g3 g4 g5 g6 g7 g8 g9
                      go_enter Tryz.func6, Tryz.ntmps6
                      go_wp2_with fail
                      (with_reducible refine (FX.out _).mono ?_)
                      rintro q w1 ⟨rfl, hb1⟩
                      have HB1 := Lib.hid (HBZ.out.trans (hb1.mono HBZ.out.size))
                      clear hb1
                      go_wp2_with fail
                      go_ret
                      exact ⟨rfl, HB1.out⟩
                  · have n1 : more < 0 := by omega
                    have d1 := decide_eq_true n1
                    have e0 := decide_eq_false (p := base < -900) (by omega)
                    have e1 := decide_eq_false (p := 900 < base) (by omega)
                    have e2 := decide_eq_false (p := start < 2000) (by omega)
                    have e3 := decide_eq_false (p := 100000000 < start) (by omega)
                    have e4 := decide_eq_false (p := by_ < 0) (by omega)
                    have e5 := decide_eq_false (p := 500000 < by_) (by omega)
                    have e6 := decide_eq_false (p := long < 1) (by omega)
                    have e7 := decide_eq_false (p := 5000 < long) (by omega)
                    clear n1 g0 g1 g2 g3 g4 g5 g6 g7 g8
                    go_enter Tryz.func6, Tryz.ntmps6
                    go_wp2_with fail
                    (with_reducible refine (FX.out _).mono ?_)
                    rintro q w1 ⟨rfl, hb1⟩
                    have HB1 := Lib.hid (HBZ.out.trans (hb1.mono HBZ.out.size))
                    clear hb1
                    go_wp2_with fail
                    go_ret
                    exact ⟨rfl, HB1.out⟩
                · have n1 : 5000 < long := by omega
                  have d1 := decide_eq_true n1
                  have e0 := decide_eq_false (p := base < -900) (by omega)
                  have e1 := decide_eq_false (p := 900 < base) (by omega)
                  have e2 := decide_eq_false (p := start < 2000) (by omega)
                  have e3 := decide_eq_false (p := 100000000 < start) (by omega)
                  have e4 := decide_eq_false (p := by_ < 0) (by omega)
                  have e5 := decide_eq_false (p := 500000 < by_) (by omega)
                  have e6 := decide_eq_false (p := long < 1) (by omega)
                  clear n1 g0 g1 g2 g3 g4 g5 g6 g7
                  go_enter Tryz.func6, Tryz.ntmps6
                  go_wp2_with fail
                  (with_reducible refine (FX.out _).mono ?_)
                  rintro q w1 ⟨rfl, hb1⟩
                  have HB1 := Lib.hid (HBZ.out.trans (hb1.mono HBZ.out.size))
                  clear hb1
                  go_wp2_with fail
                  go_ret
                  exact ⟨rfl, HB1.out⟩
              · have n1 : long < 1 := by omega
                have d1 := decide_eq_true n1
                have e0 := decide_eq_false (p := base < -900) (by omega)
                have e1 := decide_eq_false (p := 900 < base) (by omega)
                have e2 := decide_eq_false (p := start < 2000) (by omega)
                have e3 := decide_eq_false (p := 100000000 < start) (by omega)
                have e4 := decide_eq_false (p := by_ < 0) (by omega)
                have e5 := decide_eq_false (p := 500000 < by_) (by omega)
                clear n1 g0 g1 g2 g3 g4 g5 g6
                go_enter Tryz.func6, Tryz.ntmps6
                go_wp2_with fail
                (with_reducible refine (FX.out _).mono ?_)
                rintro q w1 ⟨rfl, hb1⟩
                have HB1 := Lib.hid (HBZ.out.trans (hb1.mono HBZ.out.size))
                clear hb1
                go_wp2_with fail
                go_ret
                exact ⟨rfl, HB1.out⟩
            · have n1 : 500000 < by_ := by omega
              have d1 := decide_eq_true n1
              have e0 := decide_eq_false (p := base < -900) (by omega)
              have e1 := decide_eq_false (p := 900 < base) (by omega)
              have e2 := decide_eq_false (p := start < 2000) (by omega)
              have e3 := decide_eq_false (p := 100000000 < start) (by omega)
              have e4 := decide_eq_false (p := by_ < 0) (by omega)
              clear n1 g0 g1 g2 g3 g4 g5
              go_enter Tryz.func6, Tryz.ntmps6
              go_wp2_with fail
              (with_reducible refine (FX.out _).mono ?_)
              rintro q w1 ⟨rfl, hb1⟩
              have HB1 := Lib.hid (HBZ.out.trans (hb1.mono HBZ.out.size))
              clear hb1
              go_wp2_with fail
              go_ret
              exact ⟨rfl, HB1.out⟩
          · have n1 : by_ < 0 := by omega
            have d1 := decide_eq_true n1
            have e0 := decide_eq_false (p := base < -900) (by omega)
            have e1 := decide_eq_false (p := 900 < base) (by omega)
            have e2 := decide_eq_false (p := start < 2000) (by omega)
            have e3 := decide_eq_false (p := 100000000 < start) (by omega)
            clear n1 g0 g1 g2 g3 g4
            go_enter Tryz.func6, Tryz.ntmps6
            go_wp2_with fail
            (with_reducible refine (FX.out _).mono ?_)
            rintro q w1 ⟨rfl, hb1⟩
            have HB1 := Lib.hid (HBZ.out.trans (hb1.mono HBZ.out.size))
            clear hb1
            go_wp2_with fail
            go_ret
            exact ⟨rfl, HB1.out⟩
        · have n1 : 100000000 < start := by omega
          have d1 := decide_eq_true n1
          have e0 := decide_eq_false (p := base < -900) (by omega)
          have e1 := decide_eq_false (p := 900 < base) (by omega)
          have e2 := decide_eq_false (p := start < 2000) (by omega)
          clear n1 g0 g1 g2 g3
          go_enter Tryz.func6, Tryz.ntmps6
          go_wp2_with fail
          (with_reducible refine (FX.out _).mono ?_)
          rintro q w1 ⟨rfl, hb1⟩
          have HB1 := Lib.hid (HBZ.out.trans (hb1.mono HBZ.out.size))
          clear hb1
          go_wp2_with fail
          go_ret
          exact ⟨rfl, HB1.out⟩
      · have n1 : start < 2000 := by omega
        have d1 := decide_eq_true n1
        have e0 := decide_eq_false (p := base < -900) (by omega)
        have e1 := decide_eq_false (p := 900 < base) (by omega)
        clear n1 g0 g1 g2
        go_enter Tryz.func6, Tryz.ntmps6
        go_wp2_with fail
        (with_reducible refine (FX.out _).mono ?_)
        rintro q w1 ⟨rfl, hb1⟩
        have HB1 := Lib.hid (HBZ.out.trans (hb1.mono HBZ.out.size))
        clear hb1
        go_wp2_with fail
        go_ret
        exact ⟨rfl, HB1.out⟩
    · have n1 : 900 < base := by omega
      have d1 := decide_eq_true n1
      have e0 := decide_eq_false (p := base < -900) (by omega)
      clear n1 g0 g1
      go_enter Tryz.func6, Tryz.ntmps6
      go_wp2_with fail
      (with_reducible refine (FX.out _).mono ?_)
      rintro q w1 ⟨rfl, hb1⟩
      have HB1 := Lib.hid (HBZ.out.trans (hb1.mono HBZ.out.size))
      clear hb1
      go_wp2_with fail
      go_ret
      exact ⟨rfl, HB1.out⟩
  · have n1 : base < -900 := by omega
    have d1 := decide_eq_true n1
    clear n1 g0
    go_enter Tryz.func6, Tryz.ntmps6
    go_wp2_with fail
    (with_reducible refine (FX.out _).mono ?_)
    rintro q w1 ⟨rfl, hb1⟩
    have HB1 := Lib.hid (HBZ.out.trans (hb1.mono HBZ.out.size))
    clear hb1
    go_wp2_with fail
    go_ret
    exact ⟨rfl, HB1.out⟩
end Go.Proofs.YtcleicjgeflbnaaGreat
namespace Go.Proofs.YtcleicjgeflbnaaGreat
open Go.RowKit
theorem moved_law (a b c d e : Int) (w : World) (_ : wfi .i64 a) (_ : wfi .i64 b) (_ : wfi .i64 c) (_ : wfi .i64 d) (_ : wfi .i64 e) :
    Calls Tryz.prog 6 #[.int .i64 a, .int .i64 b, .int .i64 c, .int .i64 d, .int .i64 e] w fun r w' => r = .returned (.bool true) ∧ Below w.heap.size w w' :=
  moved_any a b c d e w
end Go.Proofs.YtcleicjgeflbnaaGreat
