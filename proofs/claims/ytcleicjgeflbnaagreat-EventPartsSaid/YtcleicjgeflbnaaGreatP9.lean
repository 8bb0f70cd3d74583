/- law: EventParts, the walk. -/
import Derived.Test.YtcleicjgeflbnaaGreatP6
import Derived.Test.YtcleicjgeflbnaaGreatP7
import Derived.Test.YtcleicjgeflbnaaGreatBM
import Derived.Laws.Rows
import Derived.Deep.DeepCutAuto
import Derived.Deep.RegionHeld3
namespace Go.Proofs.YtcleicjgeflbnaaGreat
open Go.RowKit Go.ChangeShapes Go.WideShapes Go.Deep
set_option linter.all false

theorem exec_load_row {P : Program} {a : Act} (o : Oper) (ty : TypeId) (x : Operand) (ho : o.op = .load ty x) (w : World) (g : Nat) (hx : a.eval x = .pointer (some ⟨g, 0, none⟩)) (t : TypeId) (cs : Array Value) (fr : Nat × Nat) (d : TypeDesc) (hg : w.heap[g]? = some (.cells cs t fr))
    (hu : P.underlying ty = some d) (hd : (match d with | .struct _ | .array _ _ => true | _ => false) = true) (hi : (P.info? ty).map (·.size) = some cs.size) : (execOp a.eval o).run P w = .ok (.value (.agg cs)) w := by
  unfold execOp
  simp only [ho, hx, Instr.loadAt, Instr.sureAddr, Sem.run_bind, Sem.run_pure, Result.andThen_ok, run_loadVar_row w g t ty cs fr d hg hu hd hi]
theorem wpList_load_gg {P : Program} {ops : Array Oper} {rest : List Oper} {o : Oper} {a : Act} {w : World} {Q : Exit → Act → World → Prop} (hw : Region.wanted o (yielded ops a.tmps) = true) (ty : TypeId) (x : Operand) (ho : o.op = .load ty x)
    (g : Nat) (hx : a.eval x = .pointer (some ⟨g, 0, none⟩)) (t : TypeId) (cs : Array Value) (fr : Nat × Nat) (d : TypeDesc) (hg : w.heap[g]? = some (.cells cs t fr))
    (hu : P.underlying ty = some d) (hd : (match d with | .struct _ | .array _ _ => true | _ => false) = true) (hi : (P.info? ty).map (·.size) = some cs.size)
    (h : wpList P ops Q rest (a.put o.dst (.agg cs)) w) : wpList P ops Q (o :: rest) a w := by
  unfold wpList
  rw [if_pos hw]
  exact .inl (wp_load_row ty x ho g hx t cs fr d hg hu hd hi h)
theorem rEvent.size16 {w : World} {cs : List Value} {e : EventD} (h : rEvent w cs e) : cs.toArray.size = 16 := by
  obtain ⟨r, ev, p, c, rfl, _, _, ⟨m, d, y, q, rfl, _⟩, _⟩ := h
  rfl
theorem cnt_step {α : Type} (p : α → Bool) {l : List α} {k : Nat} {x : α} (h : l[k]? = some x) : ((l.take (k + 1)).filter p) = (l.take k).filter p ++ (if p x = true then [x] else []) := by
  rw [List.take_add_one, List.filter_append, h]
  cases hp : p x <;> simp [List.filter_cons, hp]
theorem cnt_le {α : Type} (p : α → Bool) (l : List α) (k : Nat) : ((l.take k).filter p).length ≤ l.length :=
  Nat.le_trans (List.length_filter_le _ _) (by simp; omega)
theorem rise_len : ∀ {l : List Int} {a b : Int}, l.Pairwise (· < ·) → (∀ x ∈ l, a ≤ x ∧ x < b) → (l.length : Int) ≤ max 0 (b - a)
  | [], _, _, _, _ => by simp; omega
  | x :: l, a, b, h, hl => by
    rw [List.pairwise_cons] at h
    have hx := hl x (List.mem_cons_self ..)
    have := rise_len (a := x + 1) (b := b) h.2 fun y hy => ⟨by have := h.1 y hy; omega, (hl y (List.mem_cons_of_mem _ hy)).2⟩
    rw [List.length_cons]; omega
theorem flat_one {α β : Type} (g : α → List β) (h : ∀ x, (g x).length ≤ 1) : ∀ l : List α, (l.flatMap g).length ≤ l.length
  | [] => Nat.le_refl _
  | x :: l => by rw [List.flatMap_cons, List.length_append, List.length_cons]; have := h x; have := flat_one g h l; omega
theorem memF_one (z : ZoneD) (x long f t : Int) : (memF z x long f t).length ≤ 1 := by unfold memF; split <;> simp
theorem members_len {z : ZoneD} {e : EventD} {f t : Int} {L : List (Int × Int)} (h : MemIs z e f t L) (ht : t - f ≤ 528480) : L.length ≤ 1000000 := by
  by_cases ha : askOk z e f t
  · cases hw : e.world with
    | true => rw [h.world ha hw]; split <;> simp
    | false =>
      obtain ⟨l, l1, l2, lp⟩ := h.own ha hw
      have h1 := rise_len (a := f - e.long - 1800) (b := t + 1800) l1 fun x hx => ((l2 x).1 hx).1
      have h2 := flat_one (fun x => memF z x e.long f t) (fun x => memF_one _ _ _ _ _) l
      have h3 := flat_one (fun c : ChangeD => memF z c.start c.long f t) (fun x => memF_one _ _ _ _ _) (e.changes.filter fun c => dec (atE e c.at_))
      have h4 : (e.changes.filter fun c => dec (atE e c.at_)).length ≤ e.changes.length := List.length_filter_le _ _
      have h5 : e.changes.length ≤ 50 := by
        cases hag : e.again with
        | false => have := (ha.1.2.2.2.1 hag).2.2.2; omega
        | true => have := (ha.1.2.2.2.2 hag).2.2.2.2.2.2.2; simpa using this
      have h6 := ha.1.2.2.1
      rw [lp.length_eq, List.length_append]
      have h7 := ha.1.2.1
      omega
  · rw [h.none ha]; simp
def pB (cut : Int) (s : Int × Int) : Bool := decide (s.1 < cut)
def pM (cut : Int) (s : Int × Int) : Bool := decide (s.1 < cut) && decide (cut < s.2)
theorem pair_at {l : List (Int × Int)} {i : Nat} {a b : Int × Int} (h : l.Pairwise spLe) (ha : l[i]? = some a) (hb : l[i + 1]? = some b) : spLe a b := by
  obtain ⟨h1, rfl⟩ := List.getElem?_eq_some_iff.1 ha
  obtain ⟨h2, rfl⟩ := List.getElem?_eq_some_iff.1 hb
  exact List.pairwise_iff_getElem.1 h i (i + 1) h1 h2 (by omega)
theorem spC1 (x : Int × Int) : spC [x] = [.int .i64 x.1, .int .i64 x.2] := rfl

set_option maxHeartbeats 40000000 in
set_option maxRecDepth 100000 in
theorem parts_any (cz ce : List Value) (z : ZoneD) (e : EventD) (f t a : Int) (w : World) (hz : rZone w cz z) (h : rEvent w ce e) (wf : wfi .i64 f) (wt : wfi .i64 t) (wa : wfi .u32 a) :
    Calls Tryz.prog 5 #[.agg cz.toArray, .agg ce.toArray, .agg #[.int .i64 f, .int .i64 t], .int .u32 a] w fun r w' => r = .returned (.bool true) ∧ Below w.heap.size w w' := by
  obtain ⟨i0, hi, hz0, hz1, hz2⟩ := info_parts infoSpan
  have FX := Lib.hid (fun W => fixed_any W)
  have SE := Lib.hid h
  have hA16 := h.size16
  obtain ⟨A, hA⟩ : ∃ A, A = ce.toArray := ⟨_, rfl⟩
  have HSZ := Lib.hid (show (Tryz.prog.info? 32).map (·.size) = some A.size by rw [hA, hA16]; kernel_rfl)
  have SZ := Lib.hid hz
  obtain ⟨tz, rfl, -, htz⟩ := hz
  obtain ⟨oz, nz, cz, rfl, lz, -, -, -⟩ := htz.open
  have HB := Lib.hid (show Below w.heap.size w (((w.alloc (.cells #[.int .i64 z.base, .slice oz nz cz] 24)).alloc (.cells A 32)).alloc (.cells #[.int .i64 f, .int .i64 t] 34)) from belowA _ (belowA _ (belowA _ (Below.refl _ _))))
  have xz := BxM.new w #[.int .i64 z.base, .slice oz nz cz] 24
  have xe := BxM.new (w.alloc (.cells #[.int .i64 z.base, .slice oz nz cz] 24)) A 32
  rw [show (w.alloc (.cells #[.int .i64 z.base, .slice oz nz cz] 24)).heap.size = w.heap.size + 1 by simp] at xe
  have xs := BxM.new ((w.alloc (.cells #[.int .i64 z.base, .slice oz nz cz] 24)).alloc (.cells A 32)) #[.int .i64 f, .int .i64 t] 34
  rw [show ((w.alloc (.cells #[.int .i64 z.base, .slice oz nz cz] 24)).alloc (.cells A 32)).heap.size = w.heap.size + 1 + 1 by simp] at xs
  have XZ := Lib.hid ((xz.alloc (.cells A 32)).alloc (.cells #[.int .i64 f, .int .i64 t] 34))
  have XE := Lib.hid (xe.alloc (.cells #[.int .i64 f, .int .i64 t] 34))
  have XS := Lib.hid xs
  clear xz xe xs hA16
  have kZ := XZ.out.cell
  have kS := XS.out.cell
  have CG := Lib.hid (fun (W : World) (hb : Below w.heap.size w W) => greatE_any _ e W (SE.out.later hb))
  have CMB := Lib.hid (fun (hg : ¬ greatE e) (hn : nz ≤ 50) (f' t' : Int) (W : World) (hb : Below w.heap.size w W) => members_any _ _ z e f' t' W (SZ.out.later hb) (SE.out.later hb) (fewE_of hg) (by omega))
  obtain ⟨D, hD⟩ : ∃ D, D = wrap64 (t - f) := ⟨_, rfl⟩
  have hD1 : wrap64 (t - f) = D := hD.symm
  have hD2 : IntKind.i64.wrap (t - f) = D := by rw [hD, IntKind.wrap_i64]; unfold wrap64; omega
  have HD := Lib.hid (And.intro hD (And.intro wf (And.intro wt wa)))
  rw [← hA] at CG CMB ⊢
  clear SE SZ htz h hD wf wt wa lz hA
  by_cases h50 : 50 < nz
  · have h50' : (50 : Int) < (nz : Int) := by omega
    go_enter Tryz.func5, Tryz.ntmps5
    go_wp2_with (go_at_call 9; ((with_reducible refine (FX.out _).mono ?_)); rintro q w2 ⟨rfl, hb2⟩; have HB2 := Lib.hid (HB.out.trans (hb2.mono HB.out.size)); clear hb2)
    go_ret
    exact ⟨rfl, HB2.out⟩
  have h50' : ¬ (50 : Int) < (nz : Int) := by omega
  go_enter Tryz.func5, Tryz.ntmps5
  go_upto_region 1 with fail
  refine wp_region_lit ?_
  iterate 15 go_step
  refine wpList_load_gg ?_ 32 (.tmp 5) rfl (w.heap.size + 1) rfl 32 A (0, 0) _ XE.out.heap Tryz.underlying32 rfl HSZ.out ?_
  · simp [Region.wanted, yielded]
  go_wp2_with (first
  | (go_at_call 8; ((with_reducible refine (CG.out _ HB.out).mono ?_)); rintro q w1 ⟨rfl, hb1⟩; have XZ1 := Lib.hid (XZ.out.below hb1); have XE1 := Lib.hid (XE.out.below hb1); have XS1 := Lib.hid (XS.out.below hb1); clear kZ kS; have kZ1 := XZ1.out.cell; have kS1 := XS1.out.cell; have HB1 := Lib.hid (HB.out.trans (hb1.mono HB.out.size)); clear hb1)
  | (go_at_call 9; ((with_reducible refine (FX.out _).mono ?_)); rintro q w2 ⟨rfl, hb2⟩; have HB2 := Lib.hid (show Below w.heap.size w w2 from (by first | exact HB1.out.trans (hb2.mono HB1.out.size) | exact HB.out.trans (hb2.mono HB.out.size))); clear hb2))
  all_goals (try (go_ret; exact ⟨rfl, HB2.out⟩))
  have hg : ¬ greatE e := fun h => ‹¬ dec (greatE e) = true› (dec_t h)
  have hn50 : nz ≤ 50 := by omega
  have g8 : 2 ≤ D := by omega
  have hDE : D = t - f := by have := HD.out.1; unfold wrap64 at this; omega
  have CM := Lib.hid (CMB.out hg hn50)
  have hab : 0 ≤ a ∧ a ≤ 4294967295 := by have := HD.out.2.2.2; simpa [wfi, IntKind.min, IntKind.max, IntKind.bits, IntKind.signed] using this
  subst hDE
  obtain ⟨ha0, ha1⟩ := hab
  clear HD CMB hg hn50 CG HB XZ XE XS
  obtain ⟨m, hm⟩ : ∃ m, m = a.tmod (t - f - 1) := ⟨_, rfl⟩
  have hm1 : 0 ≤ m ∧ m < t - f - 1 := by rw [hm, Int.tmod_eq_emod_of_nonneg ha0]; exact ⟨Int.emod_nonneg _ (by omega), Int.emod_lt_of_pos _ (by omega)⟩
  obtain ⟨hm1, hm2⟩ := hm1
  have hm3 : a.tmod (t - f - 1) = m := hm.symm
  obtain ⟨cut, hcut⟩ : ∃ cut, cut = f + 1 + m := ⟨_, rfl⟩
  have hv1 : wrap64 (t - f - 1) = t - f - 1 := by unfold wrap64; omega
  have hv2 : wrap64 a = a := by unfold wrap64; omega
  have hv3 : wrap64 m = m := by unfold wrap64; omega
  have hv4 : wrap64 (f + 1) = f + 1 := by unfold wrap64; omega
  have hv5 : wrap64 (f + 1 + m) = cut := by rw [hcut]; unfold wrap64; omega
  have hw1 : IntKind.i64.wrap (t - f - 1) = t - f - 1 := by rw [IntKind.wrap_i64]; omega
  have hw2 : IntKind.i64.wrap a = a := by rw [IntKind.wrap_i64]; omega
  have hw3 : IntKind.i64.wrap m = m := by rw [IntKind.wrap_i64]; omega
  have hw4 : IntKind.i64.wrap (f + 1) = f + 1 := by rw [IntKind.wrap_i64]; omega
  have hw5 : IntKind.i64.wrap (f + 1 + m) = cut := by rw [IntKind.wrap_i64, hcut]; omega
  have hz : ¬ t - f - 1 = 0 := by omega
  have hzb : (t - f - 1 == 0) = false := by rw [beq_eq_false_iff_ne]; exact hz
  have hcut0 : f < cut := by omega
  have hcut1 : cut < t := by omega
  clear hm hcut
  go_quiet (fail)
  clear hv1 hv2 hv3 hv4 hv5 hw1 hw2 hw3 hw4 hw5 hz hzb hm1 hm2 hm3 hD1 hD2
  go_upto_region 4 with fail
  refine wp_region_lit ?_
  iterate 3 go_step
  refine wpList_load_row rfl 32 (.tmp 5) rfl (w.heap.size + 1) rfl 32 A (0, 0) _ XE1.out.heap Tryz.underlying32 rfl HSZ.out ?_
  go_wp2_with fail
  (with_reducible refine (CM.out f t _ (below_drewN HB1.out _)).mono ?_)
  rintro q w3 ⟨v3, L3, rfl, ho3, hs3, hm3, hb3⟩
  have XZ3 := Lib.hid ((show BxM _ _ _ (World.drewN w1 _) from ⟨XZ1.out.heap⟩).below hb3)
  have XE3 := Lib.hid ((show BxM _ _ _ (World.drewN w1 _) from ⟨XE1.out.heap⟩).below hb3)
  have XS3 := Lib.hid ((show BxM _ _ _ (World.drewN w1 _) from ⟨XS1.out.heap⟩).below hb3)
  have HB3 := Lib.hid ((below_drewN HB1.out _).trans (hb3.mono (below_drewN HB1.out _).size))
  have HQ3 := Lib.hid (And.intro ho3 (And.intro hs3 hm3))
  obtain ⟨so3, sc3, rfl⟩ := own_slice2 ho3
  clear ho3 hs3 hm3 hb3 kZ1 kS1
  go_wp2_with fail
  refine wp_region_held_drew (S := (fun W' => (∀ j, W'.cell? ⟨w.heap.size, j, none⟩ = (#[.int .i64 z.base, .slice oz nz cz] : Array Value)[j]?) ∧ BxM (w.heap.size + 1) A 32 W' ∧ (∀ j, W'.cell? ⟨w.heap.size + 1 + 1, j, none⟩ = (#[.int .i64 f, .int .i64 t] : Array Value)[j]?))) (by kernel_rfl) (And.intro XZ3.out.drew.cell (And.intro XE3.out.drew XS3.out.drew.cell)) (fun hHeld => ?_)
  simp only [List.size_toArray, List.length_cons, List.length_nil, Nat.reduceAdd, Array.replicate_succ, Array.replicate_zero, List.push_toArray, List.nil_append, List.cons_append]
  refine wpAnyH_take (i := 0) (oi := ⟨some 78, _, _, _, _, _⟩) (v := ?_) rfl (by kernel_rfl) (by kernel_rfl) (by kernel_rfl) (fun _ _ _ h => h) (Or.inl ⟨by kernel_rfl, ?_⟩) (by assumption) ?_
  rotate_left
  · intro w hSw; (try dsimp only at hSw); go_simp; try with_reducible rfl
  try simp only [Act.put, List.setIfInBounds_toArray, List.set_cons_zero, List.set_cons_succ]
  refine wpAnyH_take (i := 1) (oi := ⟨some 79, _, _, _, _, _⟩) (v := .agg A) rfl (by kernel_rfl) (by kernel_rfl) (by kernel_rfl) (fun _ _ _ h => h) (Or.inl ⟨by kernel_rfl, ?_⟩) (by assumption) ?_
  · intro w hSw; exact exec_load_row _ 32 (.tmp 5) rfl _ _ rfl 32 A (0, 0) _ hSw.2.1.heap Tryz.underlying32 rfl HSZ.out
  try simp only [Act.put, List.setIfInBounds_toArray, List.set_cons_zero, List.set_cons_succ]
  refine wpAnyH_take (i := 2) (oi := ⟨some 80, _, _, _, _, _⟩) (v := ?_) rfl (by kernel_rfl) (by kernel_rfl) (by kernel_rfl) (fun _ _ _ h => h) (Or.inl ⟨by kernel_rfl, ?_⟩) (by assumption) ?_
  rotate_left
  · intro w hSw; (try dsimp only at hSw); go_simp; try with_reducible rfl
  try simp only [Act.put, List.setIfInBounds_toArray, List.set_cons_zero, List.set_cons_succ]
  refine wpAnyH_take (i := 3) (oi := ⟨some 81, _, _, _, _, _⟩) (v := ?_) rfl (by kernel_rfl) (by kernel_rfl) (by kernel_rfl) (fun _ _ _ h => h) (Or.inl ⟨by kernel_rfl, ?_⟩) (by assumption) ?_
  rotate_left
  · intro w hSw; (try dsimp only at hSw); go_simp; try with_reducible rfl
  try simp only [Act.put, List.setIfInBounds_toArray, List.set_cons_zero, List.set_cons_succ]
  refine wpAnyH_take (i := 4) (oi := ⟨some 82, _, _, _, _, _⟩) (v := ?_) rfl (by kernel_rfl) (by kernel_rfl) (by kernel_rfl) (fun _ _ _ h => h) (Or.inl ⟨by kernel_rfl, ?_⟩) (by assumption) ?_
  rotate_left
  · intro w hSw; (try dsimp only at hSw); go_simp; try with_reducible rfl
  try simp only [Act.put, List.setIfInBounds_toArray, List.set_cons_zero, List.set_cons_succ]
  refine wpAnyH_take (i := 5) (oi := ⟨some 83, _, _, _, _, _⟩) (v := ?_) rfl (by kernel_rfl) (by kernel_rfl) (by kernel_rfl) (fun _ _ _ h => h) (Or.inl ⟨by kernel_rfl, ?_⟩) (by assumption) ?_
  rotate_left
  · intro w hSw; (try dsimp only at hSw); go_simp; try with_reducible rfl
  try simp only [Act.put, List.setIfInBounds_toArray, List.set_cons_zero, List.set_cons_succ]
  refine wpAnyH_take (i := 7) (oi := ⟨some 85, _, _, _, _, _⟩) (v := ?_) rfl (by kernel_rfl) (by kernel_rfl) (by kernel_rfl) (fun _ _ _ h => h) (Or.inl ⟨by kernel_rfl, ?_⟩) (by assumption) ?_
  rotate_left
  · intro w hSw; (try dsimp only at hSw); go_simp; try with_reducible rfl
  try simp only [Act.put, List.setIfInBounds_toArray, List.set_cons_zero, List.set_cons_succ]
  refine wpAnyH_take (i := 8) (oi := ⟨some 86, _, _, _, _, _⟩) (v := .agg A) rfl (by kernel_rfl) (by kernel_rfl) (by kernel_rfl) (fun _ _ _ h => h) (Or.inl ⟨by kernel_rfl, ?_⟩) (by assumption) ?_
  · intro w hSw; exact exec_load_row _ 32 (.tmp 5) rfl _ _ rfl 32 A (0, 0) _ hSw.2.1.heap Tryz.underlying32 rfl HSZ.out
  try simp only [Act.put, List.setIfInBounds_toArray, List.set_cons_zero, List.set_cons_succ]
  refine wpAnyH_take (i := 9) (oi := ⟨some 87, _, _, _, _, _⟩) (v := ?_) rfl (by kernel_rfl) (by kernel_rfl) (by kernel_rfl) (fun _ _ _ h => h) (Or.inl ⟨by kernel_rfl, ?_⟩) (by assumption) ?_
  rotate_left
  · intro w hSw; (try dsimp only at hSw); go_simp; try with_reducible rfl
  try simp only [Act.put, List.setIfInBounds_toArray, List.set_cons_zero, List.set_cons_succ]
  refine wpAnyH_take (i := 10) (oi := ⟨some 88, _, _, _, _, _⟩) (v := ?_) rfl (by kernel_rfl) (by kernel_rfl) (by kernel_rfl) (fun _ _ _ h => h) (Or.inl ⟨by kernel_rfl, ?_⟩) (by assumption) ?_
  rotate_left
  · intro w hSw; (try dsimp only at hSw); go_simp; try with_reducible rfl
  try simp only [Act.put, List.setIfInBounds_toArray, List.set_cons_zero, List.set_cons_succ]
  refine wpAnyH_take (i := 11) (oi := ⟨some 89, _, _, _, _, _⟩) (v := ?_) rfl (by kernel_rfl) (by kernel_rfl) (by kernel_rfl) (fun _ _ _ h => h) (Or.inl ⟨by kernel_rfl, ?_⟩) (by assumption) ?_
  rotate_left
  · intro w hSw; (try dsimp only at hSw); go_simp; try with_reducible rfl
  try simp only [Act.put, List.setIfInBounds_toArray, List.set_cons_zero, List.set_cons_succ]
  refine wpAnyH_take (i := 12) (oi := ⟨some 90, _, _, _, _, _⟩) (v := ?_) rfl (by kernel_rfl) (by kernel_rfl) (by kernel_rfl) (fun _ _ _ h => h) (Or.inl ⟨by kernel_rfl, ?_⟩) (by assumption) ?_
  rotate_left
  · intro w hSw; (try dsimp only at hSw); go_simp; try with_reducible rfl
  try simp only [Act.put, List.setIfInBounds_toArray, List.set_cons_zero, List.set_cons_succ]
  refine wpAnyH_ready (rs := [6]) (by kernel_rfl) (by simp) ?_
  refine AllReadyH.cons rfl (fun K hK => ?_) AllReadyH.nil
  have HK := Lib.hid hK
  go_simp
  (with_reducible refine (CM.out f cut _ HB3.out.drew).mono ?_); rintro q w4 ⟨v4, L4, rfl, ho4, hs4, hm4, hb4⟩; have XZ4 := Lib.hid (XZ3.out.drew.below hb4); have XE4 := Lib.hid (XE3.out.drew.below hb4); have XS4 := Lib.hid (XS3.out.drew.below hb4); have hS4 := (show (fun W' => (∀ j, W'.cell? ⟨w.heap.size, j, none⟩ = (#[.int .i64 z.base, .slice oz nz cz] : Array Value)[j]?) ∧ BxM (w.heap.size + 1) A 32 W' ∧ (∀ j, W'.cell? ⟨w.heap.size + 1 + 1, j, none⟩ = (#[.int .i64 f, .int .i64 t] : Array Value)[j]?)) w4 from And.intro XZ4.out.cell (And.intro XE4.out XS4.out.cell)); have HB4 := Lib.hid (HB3.out.drew.trans (hb4.mono HB3.out.drew.size)); have hq4 := Lib.hid (And.intro ho4 (And.intro hs4 (And.intro hm4 hb4))); obtain ⟨so4, sc4, rfl⟩ := own_slice2 ho4; clear ho4 hs4 hm4 hb4
  go_simp
  refine HK.out _ _ hS4 (fun hHeld => ?_)
  clear HK hK K
  try simp only [Act.put, List.setIfInBounds_toArray, List.set_cons_zero, List.set_cons_succ]
  refine wpAnyH_ready (rs := [13]) (by kernel_rfl) (by simp) ?_
  refine AllReadyH.cons rfl (fun K hK => ?_) AllReadyH.nil
  have HK := Lib.hid hK
  go_simp
  (with_reducible refine (CM.out cut t _ HB4.out).mono ?_); rintro q w5 ⟨v5, L5, rfl, ho5, hs5, hm5, hb5⟩; have XZ5 := Lib.hid (XZ4.out.below hb5); have XE5 := Lib.hid (XE4.out.below hb5); have XS5 := Lib.hid (XS4.out.below hb5); have hS5 := (show (fun W' => (∀ j, W'.cell? ⟨w.heap.size, j, none⟩ = (#[.int .i64 z.base, .slice oz nz cz] : Array Value)[j]?) ∧ BxM (w.heap.size + 1) A 32 W' ∧ (∀ j, W'.cell? ⟨w.heap.size + 1 + 1, j, none⟩ = (#[.int .i64 f, .int .i64 t] : Array Value)[j]?)) w5 from And.intro XZ5.out.cell (And.intro XE5.out XS5.out.cell)); have HB5 := Lib.hid (HB4.out.trans (hb5.mono HB4.out.size)); have hq5 := Lib.hid (And.intro ho5 (And.intro hs5 (And.intro hm5 hb5))); obtain ⟨so5, sc5, rfl⟩ := own_slice2 ho5; clear ho5 hs5 hm5 hb5
  go_simp
  refine HK.out _ _ hS5 (fun hHeld => ?_)
  clear HK hK K
  try simp only [Act.put, List.setIfInBounds_toArray, List.set_cons_zero, List.set_cons_succ]
  refine wpAnyH_take (i := 14) (oi := ⟨some 11, _, _, _, _, _⟩) (v := ?_) rfl (by kernel_rfl) (by kernel_rfl) (by kernel_rfl) (fun _ _ _ h => h) (Or.inl ⟨by kernel_rfl, ?_⟩) (by assumption) ?_
  rotate_left
  · intro w hSw; (try dsimp only at hSw); go_simp; try with_reducible rfl
  try simp only [Act.put, List.setIfInBounds_toArray, List.set_cons_zero, List.set_cons_succ]
  refine wpAnyH_take (i := 15) (oi := ⟨some 12, _, _, _, _, _⟩) (v := ?_) rfl (by kernel_rfl) (by kernel_rfl) (by kernel_rfl) (fun _ _ _ h => h) (Or.inl ⟨by kernel_rfl, ?_⟩) (by assumption) ?_
  rotate_left
  · intro w hSw; (try dsimp only at hSw); go_simp; try with_reducible rfl
  try simp only [Act.put, List.setIfInBounds_toArray, List.set_cons_zero, List.set_cons_succ]
  refine wpAnyH_done (by kernel_rfl) ?_ _
  go_wp2_with fail
  have B34 : Below w3.heap.size w3 w4 := ((Below.refl w3.heap.size w3).drew).trans hq4.out.2.2.2
  have B45 : Below w4.heap.size w4 w5 := hq5.out.2.2.2
  have B35 := B34.trans (B45.mono B34.size)
  have rl3 := (own_sp HQ3.out.1).later' B35
  have RL4 := Lib.hid ((own_sp hq4.out.1).later' B45)
  have HSO := Lib.hid HQ3.out.2.1
  have HME := Lib.hid (members_meet HQ3.out.2.2)
  have H4 := members_part HQ3.out.2.2 HQ3.out.2.1 hq4.out.2.2.1 hq4.out.2.1 (Int.le_refl f) hcut0 (by omega) (by omega) (by omega) (by omega)
  have H5 := members_part HQ3.out.2.2 HQ3.out.2.1 hq5.out.2.2.1 hq5.out.2.1 (show f ≤ cut by omega) hcut1 (Int.le_refl t) (by omega) (by omega) (by omega)
  have HL6 := members_len HQ3.out.2.2 (by omega)
  have H4B := Lib.hid (show L4 = L3.filter (pB cut) by
    rw [H4]; exact List.filter_congr fun s hs => by unfold meets pB; rw [decide_eq_true (HME.out s hs).2.1, Bool.and_true])
  have H5B := Lib.hid (show L5 = L3.filter (fun s => decide (cut < s.2)) by
    rw [H5]; exact List.filter_congr fun s hs => by unfold meets; rw [decide_eq_true (HME.out s hs).1, Bool.true_and])
  have HCT := Lib.hid (show L4.length + L5.length = L3.length + (L3.filter (pM cut)).length by
    rw [H4B.out, H5B.out]; exact count_parts cut L3 fun s hs => (HME.out s hs).2.2)
  obtain ⟨n3, hn3⟩ : ∃ n3, n3 = L3.length := ⟨_, rfl⟩
  rw [← hn3] at rl3 HL6 ⊢
  have RL3 := Lib.hid rl3
  have HLEN := Lib.hid (And.intro hn3 HL6)
  have HXS5 := Lib.hid XS5.out.at
  obtain ⟨n4, hn4⟩ : ∃ n4, n4 = L4.length := ⟨_, rfl⟩
  obtain ⟨n5, hn5⟩ : ∃ n5, n5 = L5.length := ⟨_, rfl⟩
  rw [← hn4] at RL4 ⊢
  rw [← hn5]
  have HN45 := Lib.hid (And.intro hn4 hn5)
  clear hn3 hn4 hn5 rl3 HL6 H4 H5 B34 B45 B35 HQ3 hq4 hq5 hS4 hS5 XZ1 XE1 XS1 XZ3 XE3 XS3 XZ4 XE4 XS4 XZ5 XE5 XS5 hHeld CM
  go_wp2_with fail
  go_loopw [13, 14, 94] (fun v c i wr => ∃ (k cn : Nat), k ≤ n3 ∧ i = .int .i64 (k : Nat) ∧ c = .int .i64 (cn : Nat) ∧ cn ≤ k ∧ Hid (cn = ((L3.take k).filter (pM cut)).length) ∧ Hid (wr.ownsRow w5.heap.size 34 2 v ((L3.take k).filter (pB cut)).length (spC ((L3.take k).filter (pB cut)))) ∧ Hid (Below w5.heap.size w5 wr)) (fun _ _ i _ => n3 - (intOf i).toNat)
  case atStart => exact ⟨0, 0, Nat.zero_le _, rfl, rfl, Nat.le_refl _, Lib.hid (by simp), Lib.hid (by simp only [List.take_zero, List.filter_nil]; exact World.ownsRow_nil _ _ _ _), Lib.hid (Below.refl _ _)⟩
  case round =>
    obtain ⟨k, cn, hk, rfl, rfl, hcn, HCN, HO, HBr⟩ := hrel
    obtain ⟨wl, rfl⟩ : ∃ x, x = wr := ⟨_, rfl⟩
    have hn6 : n3 ≤ 1000000 := HLEN.out.2
    by_cases hlt : k < n3
    · have hlt' : (k : Int) < (n3 : Int) := by omega
      obtain ⟨x, a1, cs1, hx, rfl, q1, q3, q0, q2⟩ := RL3.out.elem HBr.out k hlt
      rcases x with ⟨x0, x1⟩
      obtain rfl := q3
      have e0 := q0 (by decide)
      have e1 := q2 1 (by decide) (by decide)
      simp only [encSp, List.getElem?_cons_zero, List.getElem?_cons_succ] at e0 e1
      have HX := Lib.hid hx
      have ha1 : (a1.add (k * 2)).block < wl.heap.size := World.block_lt_of_cell? _ _ e0
      clear q0 q1 q2 hx
      have HC1 := Lib.hid (cnt_step (pB cut) HX.out)
      have HC2 := Lib.hid (cnt_step (pM cut) HX.out)
      have hcl := cnt_le (pB cut) L3 k
      by_cases c1 : x0 < cut
      · have d1 := decide_eq_true c1
        have HO2 := Lib.hid (fun (ob : Obj) => HO.out.alloc ob)
        by_cases c2 : cut < x1
        · have d2 := decide_eq_true c2
          have HP1 := Lib.hid (show pB cut (x0, x1) = true from d1)
          have HP2 := Lib.hid (show pM cut (x0, x1) = true by unfold pM; rw [Bool.and_eq_true]; exact ⟨d1, d2⟩)
          clear c1 c2
          go_wp2_with (at_builtin; refine wpList_append_own ((wl.alloc (.cells #[.int .i64 x0, .int .i64 x1] 34)).alloc (.cells #[.int .i64 x0, .int .i64 x1] 34)) rfl (.tmp 114) (.tmp 116) 38 rfl w5.heap.size 34 i0 (.agg #[.int .i64 0, .int .i64 0]) 2 16 underSpans hi hz0 hz1 hz2 rfl (by decide) u13 ((L3.take k).filter (pB cut)).length (spC ((L3.take k).filter (pB cut))) rfl ((HO.out.alloc _).alloc _) ⟨wl.heap.size + 1, 0, none⟩ 1 1 [.int .i64 x0, .int .i64 x1] rfl rfl ?c1 ?c2 ?c3 ?c4 ?c5 ?_)
          case c1 =>
            intro j u hj
            match j, hj with
            | 0, hj => simp at hj; subst hj; simp [Addr.add]
            | 1, hj => simp at hj; subst hj; simp [Addr.add]
            | (_ + 2), hj => simp at hj
          case c2 => intro u hu; simp at hu; rcases hu with rfl | rfl <;> rfl
          case c3 => have := HLEN.out; unfold maxLen; omega
          case c4 => have := HLEN.out; omega
          case c5 => have := HBr.out.size; simp; omega
          intro v' w6 hown hgrow _
          have HB4 := Lib.hid (((HBr.out.alloc HBr.out.size (.cells #[.int .i64 x0, .int .i64 x1] 34)).alloc (by have := HBr.out.size; simp; omega) (.cells #[.int .i64 x0, .int .i64 x1] 34)).grown hgrow (by have := HBr.out.size; simp; omega) (fun j hj => (HO.out.lt j hj).1))
          have HO4 := Lib.hid (show w6.ownsRow w5.heap.size 34 2 v' ((L3.take (k + 1)).filter (pB cut)).length (spC ((L3.take (k + 1)).filter (pB cut))) by
            rw [HC1.out, if_pos HP1.out, spC_append, List.length_append]; exact hown)
          clear hown hgrow
          go_wp2_with fail
          go_roundw
          case measure => simp [intOf]; omega
          case rel => exact ⟨k + 1, cn + 1, by omega, by go_num, by go_num, by omega, Lib.hid (by rw [HC2.out, if_pos HP2.out, List.length_append, ← HCN.out]; rfl), HO4, HB4⟩
        · have d2 := decide_eq_false c2
          have HP1 := Lib.hid (show pB cut (x0, x1) = true from d1)
          have HP2 := Lib.hid (show ¬ pM cut (x0, x1) = true by unfold pM; rw [Bool.and_eq_true]; exact fun h => c2 (of_decide_eq_true h.2))
          clear c1 c2
          go_wp2_with (at_builtin; refine wpList_append_own ((wl.alloc (.cells #[.int .i64 x0, .int .i64 x1] 34)).alloc (.cells #[.int .i64 x0, .int .i64 x1] 34)) rfl (.tmp 114) (.tmp 116) 38 rfl w5.heap.size 34 i0 (.agg #[.int .i64 0, .int .i64 0]) 2 16 underSpans hi hz0 hz1 hz2 rfl (by decide) u13 ((L3.take k).filter (pB cut)).length (spC ((L3.take k).filter (pB cut))) rfl ((HO.out.alloc _).alloc _) ⟨wl.heap.size + 1, 0, none⟩ 1 1 [.int .i64 x0, .int .i64 x1] rfl rfl ?c1 ?c2 ?c3 ?c4 ?c5 ?_)
          case c1 =>
            intro j u hj
            match j, hj with
            | 0, hj => simp at hj; subst hj; simp [Addr.add]
            | 1, hj => simp at hj; subst hj; simp [Addr.add]
            | (_ + 2), hj => simp at hj
          case c2 => intro u hu; simp at hu; rcases hu with rfl | rfl <;> rfl
          case c3 => have := HLEN.out; unfold maxLen; omega
          case c4 => have := HLEN.out; omega
          case c5 => have := HBr.out.size; simp; omega
          intro v' w6 hown hgrow _
          have HB4 := Lib.hid (((HBr.out.alloc HBr.out.size (.cells #[.int .i64 x0, .int .i64 x1] 34)).alloc (by have := HBr.out.size; simp; omega) (.cells #[.int .i64 x0, .int .i64 x1] 34)).grown hgrow (by have := HBr.out.size; simp; omega) (fun j hj => (HO.out.lt j hj).1))
          have HO4 := Lib.hid (show w6.ownsRow w5.heap.size 34 2 v' ((L3.take (k + 1)).filter (pB cut)).length (spC ((L3.take (k + 1)).filter (pB cut))) by
            rw [HC1.out, if_pos HP1.out, spC_append, List.length_append]; exact hown)
          clear hown hgrow
          go_wp2_with fail
          go_roundw
          case measure => simp [intOf]; omega
          case rel => exact ⟨k + 1, cn, by omega, by go_num, by go_num, by omega, Lib.hid (by rw [HC2.out, if_neg HP2.out, List.append_nil, ← HCN.out]), HO4, HB4⟩
      · have d1 := decide_eq_false c1
        have HP1 := Lib.hid (show ¬ pB cut (x0, x1) = true from fun h => c1 (of_decide_eq_true h))
        have HP2 := Lib.hid (show ¬ pM cut (x0, x1) = true by unfold pM; rw [Bool.and_eq_true]; exact fun h => c1 (of_decide_eq_true h.1))
        clear c1
        go_wp2_with fail
        go_roundw
        case measure => simp [intOf]; omega
        case rel => exact ⟨k + 1, cn, by omega, by go_num, by go_num, by omega, Lib.hid (by rw [HC2.out, if_neg HP2.out, List.append_nil, ← HCN.out]), Lib.hid (by rw [HC1.out, if_neg HP1.out, List.append_nil]; exact HO.out.alloc _), HBr.out.alloc HBr.out.size _⟩
    · obtain rfl : n3 = k := by omega
      have hall : L3.take n3 = L3 := List.take_of_length_le (by rw [← HLEN.out.1]; exact Nat.le_refl _)
      rw [hall] at HCN HO
      have hnum : (n4 : Int) + (n5 : Int) = (n3 : Int) + (cn : Int) := by
        have h1 := HCT.out; have h2 := HCN.out; have h3 := HLEN.out.1; have h4 := HN45.out; omega
      have hne : wrap64 ((n4 : Int) + (n5 : Int)) = (n3 : Int) + (cn : Int) := by rw [hnum]; unfold wrap64; omega
      have CS := Lib.hid (sameSp_any _ _ L4 (L3.filter (pB cut)) wl (RL4.out.later' HBr.out) (own_sp HO.out))
      have hdec : dec (L4 = L3.filter (pB cut)) = true := dec_t H4B.out
      clear hall hnum
      go_wp2_with (go_at_call 12; ((with_reducible refine CS.out.mono ?_)); rintro q w7 ⟨rfl, q7, rfl⟩)
      have HB7 := Lib.hid (below_drewN HBr.out q7)
      have HX7 := Lib.hid (show BxAt (w.heap.size + 1 + 1) #[.int .i64 f, .int .i64 t] (wl.drewN q7) from ⟨(HXS5.out.below HBr.out).cell, (HXS5.out.below HBr.out).lt⟩)
      clear CS hne hdec HO HCN HBr
      go_loopw [137] (fun i wr => ∃ (k : Nat), k ≤ n3 ∧ i = .int .i64 (k : Nat) ∧ Hid (Below w5.heap.size w5 wr) ∧ Hid (BxAt (w.heap.size + 1 + 1) #[.int .i64 f, .int .i64 t] wr)) (fun i _ => n3 - (intOf i).toNat)
      case atStart => exact ⟨0, Nat.zero_le _, rfl, HB7, HX7⟩
      case round =>
        obtain ⟨k, hk, rfl, HBr, HXSr⟩ := hrel
        obtain ⟨wl, rfl⟩ : ∃ x, x = wr := ⟨_, rfl⟩
        by_cases hlt : k < n3
        · have hlt' : (k : Int) < (n3 : Int) := by omega
          obtain ⟨x, a1, cs1, hx, rfl, q1, q3, q0, q2⟩ := RL3.out.elem HBr.out k hlt
          rcases x with ⟨x0, x1⟩
          obtain rfl := q3
          have e0 := q0 (by decide)
          have e1 := q2 1 (by decide) (by decide)
          simp only [encSp, List.getElem?_cons_zero, List.getElem?_cons_succ] at e0 e1
          have HX := Lib.hid hx
          have ha1 : (a1.add (k * 2)).block < wl.heap.size := World.block_lt_of_cell? _ _ e0
          have hmt := HME.out (x0, x1) (List.mem_of_getElem? hx)
          simp only at hmt
          have d1 : decide (t ≤ x0) = false := decide_eq_false (by omega)
          have d2 : decide (x1 ≤ f) = false := decide_eq_false (by omega)
          have d3 : decide (x1 ≤ x0) = false := decide_eq_false (by omega)
          have HXS2 := Lib.hid (HXSr.out.below (belowA (.cells #[.int .i64 x0, .int .i64 x1] 34) (Below.refl wl.heap.size wl)))
          have HB2 := Lib.hid (HBr.out.alloc HBr.out.size (.cells #[.int .i64 x0, .int .i64 x1] 34))
          have kS := HXSr.out.cell
          have lS := HXSr.out.lt
          clear q0 q1 q2 hx hmt
          by_cases hk0 : k = 0
          · have d4 : ¬ (0 : Int) < (k : Int) := by omega
            have d5 : decide ((0 : Int) < (k : Int)) = false := decide_eq_false d4
            have d6 : decide (0 < k) = false := decide_eq_false (by omega)
            clear hk0
            go_wp2_with fail
            go_quiet (fail)
            go_wp2_with fail
            go_roundw
            case measure => simp [intOf]; omega
            case rel => exact ⟨k + 1, by omega, by go_num, below_drewN HB2.out _, ⟨HXS2.out.cell, HXS2.out.lt⟩⟩
          · have hk1 : 1 ≤ k := by omega
            have hk2 : (0 : Int) < (k : Int) := by omega
            have d5 : decide ((0 : Int) < (k : Int)) = true := decide_eq_true hk2
            have d6 : decide (0 < k) = true := decide_eq_true (by omega)
            obtain ⟨y, a2, cs2, hy, ha, q1, q3, q0, q2⟩ := RL3.out.elem HBr.out (k - 1) (by omega)
            cases ha
            rcases y with ⟨y0, y1⟩
            obtain rfl := q3
            have g0 := q0 (by decide)
            have g1 := q2 1 (by decide) (by decide)
            simp only [encSp, List.getElem?_cons_zero, List.getElem?_cons_succ] at g0 g1
            have ha2 : (a1.add ((k - 1) * 2)).block < wl.heap.size := World.block_lt_of_cell? _ _ g0
            have hle := pair_at HSO.out hy (by rw [show k - 1 + 1 = k by omega]; exact HX.out)
            unfold spLe at hle
            simp only at hle
            have hk3 : (0 : Int) ≤ (k : Int) - 1 := by omega
            have hk4 : (k : Int) - 1 < (n3 : Int) := by omega
            have hk6 : (1 : Int) ≤ (k : Int) := by omega
            have hk5 : ((k : Int) - 1).toNat = k - 1 := by omega
            have hw5 : IntKind.i64.wrap ((k : Int) - 1) = (k : Int) - 1 := by rw [IntKind.wrap_i64]; omega
            have f1 : decide (x0 < y0) = false := decide_eq_false (by omega)
            by_cases hy0 : y0 = x0
            · have f2 : (y0 == x0) = true := by rw [beq_iff_eq]; exact hy0
              have f3 : decide (x1 < y1) = false := decide_eq_false (by omega)
              clear hk0 q0 q1 q2 hy hle hy0
              go_wp2_with fail
              go_quiet (fail)
              go_wp2_with fail
              go_roundw
              case measure => simp [intOf]; omega
              case rel => exact ⟨k + 1, by omega, by go_num, below_drewN HB2.out _, ⟨HXS2.out.cell, HXS2.out.lt⟩⟩
            · have f2 : (y0 == x0) = false := by rw [beq_eq_false_iff_ne]; exact hy0
              clear hk0 q0 q1 q2 hy hle hy0
              go_wp2_with fail
              go_quiet (fail)
              go_wp2_with fail
              go_roundw
              case measure => simp [intOf]; omega
              case rel => exact ⟨k + 1, by omega, by go_num, below_drewN HB2.out _, ⟨HXS2.out.cell, HXS2.out.lt⟩⟩
        · obtain rfl : n3 = k := by omega
          go_wp2_with fail
          (with_reducible refine (FX.out _).mono ?_)
          rintro q w8 ⟨rfl, hb8⟩
          have HB8 := Lib.hid (HB5.out.trans ((HBr.out.trans (hb8.mono HBr.out.size)).mono HB5.out.size))
          clear hb8
          go_wp2_with fail
          go_ret
          exact ⟨rfl, HB8.out⟩
theorem parts_law (cz : List Value) (z : ZoneD) (ce : List Value) (e : EventD) (f t a : Int) (w : World) (hz : rZone w cz z) (h : rEvent w ce e) (wf : wfi .i64 f) (wt : wfi .i64 t) (wa : wfi .u32 a) :
    Calls Tryz.prog 5 #[.agg cz.toArray, .agg ce.toArray, .agg #[.int .i64 f, .int .i64 t], .int .u32 a] w fun r w' => r = .returned (.bool true) ∧ Below w.heap.size w w' :=
  parts_any cz ce z e f t a w hz h wf wt wa
end Go.Proofs.YtcleicjgeflbnaaGreat
