/- recur.walker: times, the iterator. Conditions: the walker lies as walk laid it, whatever the rounds do. recur.Between: the walk. Conditions: the rule reads, its rows are not too long. -/
import Derived.Test.YtechgcjdigpglaaGreatK12
namespace Go.Proofs.YtechgcjdigpglaaGreat
open Go.RowKit Go.ChangeShapes Go.WideShapes Go.Deep
set_option linter.all false
attribute [local go_sem] Oper.semAt_some

def atS (mi : Int) (n : Int) : Int := n * 1440 + mi
theorem timesF_len {r : RuleD} {s mi : Int} {k : Nat} (hs0 : 0 ≤ s) (hs1 : s < 109938) (hf : 1 ≤ r.freq ∧ r.freq ≤ 4) (hi : 1 ≤ r.interval) (hm0 : 0 ≤ mi) (hm1 : mi < 1440) : (timesF r s mi k).length ≤ 110000 := by
  have hr := timesF_rise (r := r) hs0 hs1 hf hi mi k
  rcases day_count (mi := mi) (a := 0) (b := 158400000) hr (fun x hx => by
    obtain ⟨n, h1, h2, _⟩ := mem_timesF hs0 hs1 hf hi hx
    exact ⟨⟨n, h1⟩, by omega, by omega⟩) with h | h
  · omega
  · rw [h]; simp
theorem perBd_more {r : RuleD} {s : Int} {k : Nat} (hs0 : 0 ≤ s) (hs1 : s < 109938) (hi0 : 1 ≤ r.interval) (hi1 : r.interval ≤ 999) (hm : moreP r s ((k : Int) * r.interval)) (hk : 0 ≤ (k : Int) * r.interval) : perBd r (((k + 1 : Nat) : Int) * r.interval) := by
  have e : ((k + 1 : Nat) : Int) * r.interval = (k : Int) * r.interval + r.interval := by rw [Int.natCast_succ, Int.add_mul, Int.one_mul]
  obtain ⟨hv, -, m1, m2⟩ := date_valid s hs0 hs1
  have := hv.1
  have hb := moreP_bd hs0 hs1 hm
  rw [e]
  unfold moreP weekLo monthNo at hm
  refine ⟨by omega, by omega, fun h => ?_, fun h => ?_⟩
  · rw [if_neg (by omega), if_neg (by omega), if_pos h] at hm; omega
  · rw [if_neg (by omega), if_neg (by omega), if_neg (by omega)] at hm; omega
theorem period_mem {r : RuleD} {s x n : Int} (hs0 : 0 ≤ s) (hs1 : s < 109938) (hx : 0 ≤ x) (hf : 1 ≤ r.freq ∧ r.freq ≤ 4) (h : n ∈ periodF r s x) : 0 ≤ n ∧ n < 109938 := by
  rw [period_days hs0 hs1 hx hf, mem_perDays] at h
  exact h.1
theorem period_len {r : RuleD} {s x : Int} : (periodF r s x).length ≤ 400 := by
  unfold periodF
  split
  · have := daysF_le r s (s + x) (s + x + 1); omega
  split
  · have := daysF_le r s (weekLo r s x) (weekLo r s x + 7); omega
  split
  · have := monthF_le r s (monthNo s x / 12) (monthNo s x % 12 + 1); omega
  · have := yearTo_le r s x 12
    unfold yearTo at this
    omega
theorem own_base {W : World} {B B' : Nat} {e : TypeId} {sz : Nat} {v : Value} {n : Nat} {xs : List Value} (h : W.ownsRow B e sz v n xs) (hB : B' ≤ B) : W.ownsRow B' e sz v n xs := by
  obtain ⟨h1, h2 | ⟨g, cap, cur, e, a1, a2⟩⟩ := h
  · exact ⟨h1, .inl h2⟩
  · exact ⟨h1, .inr ⟨g, cap, cur, e, Nat.le_trans hB a1, a2⟩⟩
theorem inC_map (l : List Int) : inC l = l.map fun d => Value.int .i64 d := by
  induction l with
  | nil => rfl
  | cons a t ih =>
    have e : inC (a :: t) = .int .i64 a :: inC t := rfl
    rw [e, ih]; rfl
theorem add_block (a : Addr) (i : Nat) : (a.add i).block = a.block := by unfold Addr.add; split <;> rfl
/-- The cells of a list that the rounds leave alone. -/
def listAt (G : Nat → Prop) (o : Option Addr) (ls : List Int) (W : World) : Prop := ∀ (i : Nat) (u : Int), ls[i]? = some u → ∃ a, o = some a ∧ G a.block ∧ W.cell? (a.add i) = some (.int .i64 u)
theorem listAt.keep {G G' : Nat → Prop} {o : Option Addr} {ls : List Int} {W W' : World} (h : listAt G o ls W) (hG : ∀ k, G k → G' k) (hk : ∀ k, G k → W'.heap[k]? = W.heap[k]?) : listAt G' o ls W' := fun i u hu => by
  obtain ⟨a, h1, h2, h3⟩ := h i u hu
  exact ⟨a, h1, hG _ h2, by rw [← h3]; exact World.cell?_of_block (hk _ (by rw [add_block]; exact h2))⟩
theorem own_list {G : Nat → Prop} {W : World} {B : Nat} {v : Value} {ls : List Int} (h : W.ownsRow B 3 1 v ls.length (inC ls)) (hG : ∀ k, B ≤ k → k < W.heap.size → G k) : ∃ o c, v = .slice o ls.length c ∧ listAt G o ls W := by
  have hc := h
  obtain ⟨h1, h2 | ⟨g, cap, cur, rfl, a1, a2, a3, a4, a5, a6⟩⟩ := h
  · obtain ⟨rfl, h0⟩ := h2
    have := List.eq_nil_of_length_eq_zero h0
    subst this
    exact ⟨none, 0, rfl, fun i u hu => by simp at hu⟩
  · refine ⟨_, cap, rfl, fun i u hu => ⟨⟨g, 0, none⟩, rfl, hG g a1 (Array.getElem?_eq_some_iff.1 a2).1, hc.cells (g := g) rfl _ _ ?_⟩⟩
    rw [inC_map, List.getElem?_map, hu]
    rfl

set_option maxHeartbeats 16000000 in
set_option maxRecDepth 100000 in
theorem times_in (r : RuleD) (s mi : Int) (b n l k0 : Nat) (J : (Nat → Prop) → List Int → World → Prop) (Jx : World → Prop) (G1 : Nat → Prop) (W1 : World)
    (hs0 : 0 ≤ s) (hs1 : s < 109938) (hr : mayR r) (hf : fewR r) (hm0 : 0 ≤ mi) (hm1 : mi < 1440) (hk0 : k0 ≤ 112000) (hp0 : perBd r ((k0 : Int) * r.interval))
    (hWk : ∀ G pre W, J G pre W → Wk r s mi b W)
    (hJ : ∀ G pre W W', Below W.heap.size W W' → J G pre W → J (more G W W') pre W')
    (hY : ∀ m G pre x W, (∃ post, timesF r s mi k0 = pre ++ x :: post) → J G pre W → YieldAt Fence.wide m Tryz.prog l #[.int .i64 x] W fun e W' => (e = .returned (.bool true) ∧ J G (pre ++ [x]) W' ∧ ∀ k, G k → W'.heap[k]? = W.heap[k]?) ∨ (e = .returned (.bool false) ∧ Jx W'))
    (hj : J G1 [] W1) :
    CallsIn Fence.wide n Tryz.prog 175 #[.pointer (some ⟨b, 0, none⟩), .int .i64 (k0 : Nat), .func (.yield l) #[] #[]] W1 fun e W' => (∃ v, e = .returned v) ∧ ((∃ G, J G (timesF r s mi k0) W') ∨ Jx W') := by
  obtain ⟨hfr, ⟨hi0, hi1⟩, hst, he⟩ := hr.may
  have HL := Lib.hid (timesF_len (k := k0) hs0 hs1 hfr hi0 hm0 hm1)
  have HWK := Lib.hid hWk; have HJ := Lib.hid hJ; have HY := Lib.hid hY
  have PE := Lib.hid (fun (k : Nat) (hk : k ≤ 200000) (hp : perBd r ((k : Int) * r.interval)) W (hW : Wk r s mi b W) => period_any r s mi b W hW k hk hs0 hs1 hfr hst hp ⟨hf.m, hf.d, hf.y⟩)
  have PL := Lib.hid (fun v xs W (hW : Wk r s mi b W) (hv : Row W 1 (rI .i64) v xs) (hl : xs.length ≤ 10000) => places_any r s mi b W hW v xs hv hl hf.p)
  have HMAY := Lib.hid hr
  clear hWk hJ hY hr hf he
  refine callsIn_of_wp Tryz.func175 rfl trivial ?_ rfl
  simp only [Tryz.ntmps175, List.size_toArray, List.length_cons, List.length_nil, Nat.reduceAdd, Nat.reduceSub, Array.replicate_succ, Array.replicate_zero, List.push_toArray, List.append_toArray, List.nil_append, List.cons_append]
  gi_wp2
  gi_loopw [1, 6] (fun kv gv wr => ∃ (k : Nat) (G : Nat → Prop) (pre : List Int), kv = .int .i64 (k : Nat) ∧ gv = .int .i64 (pre.length : Nat) ∧ k ≤ 115000 ∧ Hid (perBd r ((k : Int) * r.interval)) ∧ Hid (J G pre wr) ∧ Hid (timesF r s mi k0 = pre ++ cutG r pre.length ((candK r s k).map (atS mi))))
    (fun kv _ _ => 120000 - (intOf kv).toNat)
  case atStart => exact ⟨k0, G1, [], rfl, rfl, by omega, Lib.hid hp0, Lib.hid hj, Lib.hid rfl⟩
  case round =>
    obtain ⟨k, G, pre, rfl, rfl, hk, HP, HJs, HT⟩ := hrel
    obtain ⟨wl, rfl⟩ : ∃ x, x = wr := ⟨_, rfl⟩
    have P1 := Lib.hid (PE.out k (by omega) HP.out wl (HWK.out _ _ _ HJs.out))
    obtain ⟨hx0, hx1, -, -⟩ := HP.out
    by_cases hm : moreP r s ((k : Int) * r.interval)
    · have h := P1.out
      rw [dec_t hm] at h
      have P2 := Lib.hid h
      have HPB := Lib.hid (perBd_more hs0 hs1 hi0 hi1 hm hx0)
      have HCK := Lib.hid (show candK r s k = (placesF r (periodF r s ((k : Int) * r.interval))).filter (fun n => decide (s ≤ n)) ++ candK r s (k + 1) by rw [candK_step r s k (by omega), if_pos (dec_t hm)])
      have hkk : k + 1 ≤ 115000 := by
        have h1 := HPB.out.2.1
        have h2 := Int.mul_le_mul_of_nonneg_left hi0 (show (0 : Int) ≤ ((k + 1 : Nat) : Int) by omega)
        omega
      obtain ⟨xs, hxs⟩ : ∃ xs, xs = periodF r s ((k : Int) * r.interval) := ⟨_, rfl⟩
      have hxm : ∀ x ∈ xs, 0 ≤ x ∧ x < 109938 := fun x hx => period_mem hs0 hs1 hx0 hfr (hxs ▸ hx)
      have hxl : xs.length ≤ 400 := by rw [hxs]; exact period_len
      rw [← hxs] at P2 HCK
      obtain ⟨ls, hls⟩ : ∃ ls, ls = placesF r xs := ⟨_, rfl⟩
      have hlm : ∀ x ∈ ls, 0 ≤ x ∧ x < 109938 := fun x hx => hxm x ((placesF_sub r xs).subset (hls ▸ hx))
      have hll : ls.length ≤ 400 := Nat.le_trans (by rw [hls]; exact (placesF_sub r xs).length_le) hxl
      rw [← hls] at HCK
      have HLS := Lib.hid hls; have HXM := Lib.hid hxm; have HLM := Lib.hid hlm
      clear P1 h hm hxs hls hxm hlm
      gi_wp2
      refine ⟨trivial, (fun h => by cases h), ?_⟩
      refine (callsIn_wide.2 P2.out).mono ?_
      rintro e w1 ⟨v1, rfl, ho1, hb1⟩
      have HO1 := Lib.hid ho1; have HB1 := Lib.hid hb1
      have HJ1 := Lib.hid (HJ.out _ _ _ _ hb1 HJs.out)
      have Q1 := Lib.hid (PL.out v1 xs w1 (HWK.out _ _ _ HJ1.out) (row_own (fun x => [.int .i64 x]) _ ho1 fun x hx => ⟨rfl, rfl, wfi_days (by have := HXM.out x hx; omega) (by have := HXM.out x hx; omega)⟩) (by omega))
      clear P2 ho1 hb1
      gi_wp2
      refine ⟨trivial, (fun h => by cases h), ?_⟩
      refine (callsIn_wide.2 Q1.out).mono ?_
      rintro e w2 ⟨v2, rfl, hv2, hb2⟩
      have HJ2 := Lib.hid (HJ.out _ _ _ _ hb2 HJ1.out)
      have hown : w2.ownsRow wl.heap.size 3 1 v2 ls.length (inC ls) := by
        rcases hv2 with ⟨rfl, e⟩ | h
        · rw [HLS.out, e]; exact own_laterI HO1.out hb2
        · rw [HLS.out]; exact own_base h HB1.out.size
      obtain ⟨o2, c2, rfl, hla⟩ := own_list (G := more (more G wl w1) w1 w2) hown (fun k h1 h2 => by
        unfold more
        by_cases h : k < w1.heap.size
        · exact .inl (.inr ⟨h1, h⟩)
        · exact .inr ⟨by omega, h2⟩)
      have HLA := Lib.hid hla
      obtain ⟨G2, hG2⟩ : ∃ G2, G2 = more (more G wl w1) w1 w2 := ⟨_, rfl⟩
      rw [← hG2] at HJ2 HLA
      clear hla hown hv2 hb2 hG2 Q1 HJ1 HO1 HB1 HJs HXM HLS
      gi_wp2
      gi_loopw [6, 26] (fun gv iv wr => ∃ (j : Nat) (G : Nat → Prop) (pre : List Int), gv = .int .i64 (pre.length : Nat) ∧ iv = .int .i64 (j : Nat) ∧ j ≤ ls.length ∧ Hid (J G pre wr) ∧ Hid (listAt G o2 ls wr) ∧ Hid (timesF r s mi k0 = pre ++ cutG r pre.length ((((ls.drop j).filter fun n => decide (s ≤ n)) ++ candK r s (k + 1)).map (atS mi))))
        (fun _ iv _ => ls.length - (intOf iv).toNat)
      case atStart => exact ⟨0, G2, pre, rfl, rfl, Nat.zero_le _, HJ2, HLA, Lib.hid (by rw [HT.out, HCK.out]; rfl)⟩
      case round =>
        obtain ⟨j, G, pre, rfl, rfl, hj, HJs, HLA, HT⟩ := hrel
        obtain ⟨wl, rfl⟩ : ∃ x, x = wr := ⟨_, rfl⟩
        obtain ⟨om, nm, cm, od, nd, cd, oy, ny, cy, op, np, cp, hxx, -, -, -, -⟩ := (HWK.out _ _ _ HJs.out).lies
        have kA := hxx.cell
        have hbw : b < wl.heap.size := hxx.lt
        clear hxx
        by_cases hlt : j < ls.length
        · have hlt' : (j : Int) < (ls.length : Int) := by omega
          obtain ⟨x, hx⟩ : ∃ x, ls[j]? = some x := ⟨_, List.getElem?_eq_getElem hlt⟩
          obtain ⟨a1, rfl, -, e0⟩ := HLA.out j x hx
          obtain ⟨hx0', hx1'⟩ := HLM.out x (List.mem_of_getElem? hx)
          have hdrop : ls.drop j = x :: ls.drop (j + 1) := by
            obtain ⟨h1, h2⟩ := List.getElem?_eq_some_iff.1 hx
            rw [List.drop_eq_getElem_cons h1, h2]
          by_cases h1 : x < s
          · have HT2 := Lib.hid (show timesF r s mi k0 = pre ++ cutG r pre.length ((((ls.drop (j + 1)).filter fun n => decide (s ≤ n)) ++ candK r s (k + 1)).map (atS mi)) by
              rw [HT.out, hdrop, List.filter_cons, if_neg (by simp; omega)])
            clear hdrop hx
            gi_wp2
            go_roundw
            case measure => simp [intOf]; omega
            case rel => exact ⟨j + 1, G, pre, rfl, by go_num, by omega, HJs, HLA, HT2⟩
          · have HTc := Lib.hid (show timesF r s mi k0 = pre ++ cutG r pre.length (atS mi x :: (((ls.drop (j + 1)).filter fun n => decide (s ≤ n)) ++ candK r s (k + 1)).map (atS mi)) by
              rw [HT.out, hdrop, List.filter_cons, if_pos (by simp; omega)]; rfl)
            have hplen : pre.length ≤ 110000 := by
              have h := HL.out
              rw [HTc.out, List.length_append] at h
              omega
            have hat : atS mi x = x * 1440 + mi := rfl
            have HAT := Lib.hid hat
            clear hdrop hx hat
            by_cases hstop : (0 ≤ r.until_ ∧ r.until_ < x * 1440 + mi) ∨ (0 < r.count ∧ (pre.length : Int) = r.count)
            · have HE := Lib.hid (show timesF r s mi k0 = pre by rw [HTc.out, cutG, HAT.out, if_pos hstop, List.append_nil])
              by_cases hu : 0 ≤ r.until_ ∧ r.until_ < x * 1440 + mi
              · obtain ⟨u0, u1⟩ := hu
                have d0 := decide_eq_true u0
                have d1 := decide_eq_true u1
                clear hstop
                gi_wp2
                (try simp only [Exit.inBlock, Exit.then])
                refine bodyPost_ret (results_none rfl _ _ _) rfl ?_
                exact ⟨⟨_, rfl⟩, .inl ⟨_, by rw [HE.out]; exact HJs.out⟩⟩
              · obtain ⟨c0, c1⟩ : 0 < r.count ∧ (pre.length : Int) = r.count := hstop.elim (fun h => absurd h hu) id
                have d2 := decide_eq_true c0
                have d3 : ((pre.length : Int) == r.count) = true := by rw [beq_iff_eq]; exact c1
                have HC1 := Lib.hid c1
                by_cases u0 : 0 ≤ r.until_
                · have u1 : ¬ r.until_ < x * 1440 + mi := fun h => hu ⟨u0, h⟩
                  clear hstop hu c1
                  gi_wp2
                  (try simp only [Exit.inBlock, Exit.then])
                  refine bodyPost_ret (results_none rfl _ _ _) rfl ?_
                  exact ⟨⟨_, rfl⟩, .inl ⟨_, by rw [HE.out]; exact HJs.out⟩⟩
                · clear hstop hu c1
                  gi_wp2
                  (try simp only [Exit.inBlock, Exit.then])
                  refine bodyPost_ret (results_none rfl _ _ _) rfl ?_
                  exact ⟨⟨_, rfl⟩, .inl ⟨_, by rw [HE.out]; exact HJs.out⟩⟩
            · have HT2 := Lib.hid (show timesF r s mi k0 = pre ++ (atS mi x :: cutG r (pre.length + 1) ((((ls.drop (j + 1)).filter fun n => decide (s ≤ n)) ++ candK r s (k + 1)).map (atS mi))) by rw [HTc.out, cutG, HAT.out, if_neg hstop])
              obtain ⟨fn, tmps, assign, bod, hy, hR⟩ := HY.out (n - 1) G pre (atS mi x) wl ⟨_, HT2.out⟩ HJs.out
              rw [HAT.out] at hy
              have HR := Lib.hid hR
              clear hR
              by_cases u0 : 0 ≤ r.until_
              · have u1 : ¬ r.until_ < x * 1440 + mi := fun h => hstop (.inl ⟨u0, h⟩)
                by_cases c0 : 0 < r.count
                · have d3 : ((pre.length : Int) == r.count) = false := by rw [beq_eq_false_iff_ne]; exact fun h => hstop (.inr ⟨c0, h⟩)
                  clear hstop
                  gi_wp2
                  refine ⟨(fun h => by cases h), ?_⟩
                  refine HR.out.mono ?_
                  rintro e W3 (⟨rfl, hJ', hkeep⟩ | ⟨rfl, hx⟩)
                  · have HJ3 := Lib.hid hJ'
                    have HL3 := Lib.hid (HLA.out.keep (fun k h => h) hkeep)
                    clear hJ' hkeep
                    gi_wp2
                    go_roundw
                    case measure => simp [intOf]; omega
                    case rel => exact ⟨j + 1, G, pre ++ [atS mi x], by rw [List.length_append]; go_num, by go_num, by omega, HJ3, HL3, Lib.hid (by rw [HT2.out, List.append_assoc, List.length_append]; rfl)⟩
                  · have HX3 := Lib.hid hx
                    clear hx
                    gi_wp2
                    (try simp only [Exit.inBlock, Exit.then])
                    refine bodyPost_ret (results_none rfl _ _ _) rfl ?_
                    exact ⟨⟨_, rfl⟩, .inr HX3.out⟩
                · clear hstop
                  gi_wp2
                  refine ⟨(fun h => by cases h), ?_⟩
                  refine HR.out.mono ?_
                  rintro e W3 (⟨rfl, hJ', hkeep⟩ | ⟨rfl, hx⟩)
                  · have HJ3 := Lib.hid hJ'
                    have HL3 := Lib.hid (HLA.out.keep (fun k h => h) hkeep)
                    clear hJ' hkeep
                    gi_wp2
                    go_roundw
                    case measure => simp [intOf]; omega
                    case rel => exact ⟨j + 1, G, pre ++ [atS mi x], by rw [List.length_append]; go_num, by go_num, by omega, HJ3, HL3, Lib.hid (by rw [HT2.out, List.append_assoc, List.length_append]; rfl)⟩
                  · have HX3 := Lib.hid hx
                    clear hx
                    gi_wp2
                    (try simp only [Exit.inBlock, Exit.then])
                    refine bodyPost_ret (results_none rfl _ _ _) rfl ?_
                    exact ⟨⟨_, rfl⟩, .inr HX3.out⟩
              · by_cases c0 : 0 < r.count
                · have d3 : ((pre.length : Int) == r.count) = false := by rw [beq_eq_false_iff_ne]; exact fun h => hstop (.inr ⟨c0, h⟩)
                  clear hstop
                  gi_wp2
                  refine ⟨(fun h => by cases h), ?_⟩
                  refine HR.out.mono ?_
                  rintro e W3 (⟨rfl, hJ', hkeep⟩ | ⟨rfl, hx⟩)
                  · have HJ3 := Lib.hid hJ'
                    have HL3 := Lib.hid (HLA.out.keep (fun k h => h) hkeep)
                    clear hJ' hkeep
                    gi_wp2
                    go_roundw
                    case measure => simp [intOf]; omega
                    case rel => exact ⟨j + 1, G, pre ++ [atS mi x], by rw [List.length_append]; go_num, by go_num, by omega, HJ3, HL3, Lib.hid (by rw [HT2.out, List.append_assoc, List.length_append]; rfl)⟩
                  · have HX3 := Lib.hid hx
                    clear hx
                    gi_wp2
                    (try simp only [Exit.inBlock, Exit.then])
                    refine bodyPost_ret (results_none rfl _ _ _) rfl ?_
                    exact ⟨⟨_, rfl⟩, .inr HX3.out⟩
                · clear hstop
                  gi_wp2
                  refine ⟨(fun h => by cases h), ?_⟩
                  refine HR.out.mono ?_
                  rintro e W3 (⟨rfl, hJ', hkeep⟩ | ⟨rfl, hx⟩)
                  · have HJ3 := Lib.hid hJ'
                    have HL3 := Lib.hid (HLA.out.keep (fun k h => h) hkeep)
                    clear hJ' hkeep
                    gi_wp2
                    go_roundw
                    case measure => simp [intOf]; omega
                    case rel => exact ⟨j + 1, G, pre ++ [atS mi x], by rw [List.length_append]; go_num, by go_num, by omega, HJ3, HL3, Lib.hid (by rw [HT2.out, List.append_assoc, List.length_append]; rfl)⟩
                  · have HX3 := Lib.hid hx
                    clear hx
                    gi_wp2
                    (try simp only [Exit.inBlock, Exit.then])
                    refine bodyPost_ret (results_none rfl _ _ _) rfl ?_
                    exact ⟨⟨_, rfl⟩, .inr HX3.out⟩
        · have hje : j = ls.length := by omega
          have HT2 := Lib.hid (show timesF r s mi k0 = pre ++ cutG r pre.length ((candK r s (k + 1)).map (atS mi)) by
            rw [HT.out, hje, List.drop_length, List.filter_nil, List.nil_append])
          clear hje
          gi_wp2
          go_roundw
          case measure => simp [intOf]; omega
          case rel => exact ⟨k + 1, G, pre, by go_num, rfl, by omega, HPB, HJs, HT2⟩
    · have h := P1.out
      rw [dec_f hm] at h
      have P2 := Lib.hid h
      have HE := Lib.hid (show timesF r s mi k0 = pre by
        rw [HT.out, candK_step r s k (by omega), if_neg (by rw [dec_f hm]; decide)]
        simp [cutG])
      clear P1 h hm
      gi_wp2
      refine ⟨trivial, (fun h => by cases h), ?_⟩
      refine (callsIn_wide.2 P2.out).mono ?_
      rintro e w1 ⟨v1, rfl, -, hb1⟩
      have HJ1 := Lib.hid (HJ.out _ _ _ _ hb1 HJs.out)
      clear P2 hb1
      gi_wp2
      (try simp only [Exit.inBlock, Exit.then])
      refine bodyPost_ret (results_none rfl _ _ _) rfl ?_
      exact ⟨⟨_, rfl⟩, .inl ⟨_, by rw [HE.out]; exact HJ1.out⟩⟩
end Go.Proofs.YtechgcjdigpglaaGreat
namespace Go.Proofs.YtechgcjdigpglaaGreat
open Go.RowKit Go.ChangeShapes Go.WideShapes Go.Deep
set_option linter.all false
attribute [local go_sem] Oper.semAt_some

theorem results_cells2 {fn : Func} {p q : Tmp} {ty ty2 : TypeId} (h : fn.results = #[.cell p ty, .cell q ty2]) (tmps : Array Value) (P : Program) (w : World) :
    (results fn tmps).run P w =
      ((asAddr (tmps.getD p undef)).run P w).andThen fun a w₁ => ((loadVar ty a).run P w₁).andThen fun v w₂ => ((asAddr (tmps.getD q undef)).run P w₂).andThen fun b w₃ => ((loadVar ty2 b).run P w₃).andThen fun u w₄ => .ok (.tuple #[v, u]) w₄ := by
  simp only [results, h]
  simp [Sem.run_bind, Result.andThen]
theorem bet_results (tmps : Array Value) (W : World) (a b : Nat) (o : Option Addr) (n c : Nat) (x : Bool) (hp : tmps.getD 10 undef = .pointer (some ⟨a, 0, none⟩)) (hq : tmps.getD 11 undef = .pointer (some ⟨b, 0, none⟩))
    (ha : W.heap[a]? = some (.cells #[.slice o n c] 29 (0, 0))) (hb : W.heap[b]? = some (.cells #[.bool x] 4 (0, 0))) : (results Tryz.f88 tmps).run Tryz.prog W = .ok (.tuple #[.slice o n c, .bool x]) W := by
  have ha' : W.cell? ⟨a, 0, none⟩ = some (.slice o n c) := by rw [cell_of_row _ _ _ _ _ _ ha]; rfl
  have hb' : W.cell? ⟨b, 0, none⟩ = some (.bool x) := by rw [cell_of_row _ _ _ _ _ _ hb]; rfl
  have hl : (loadVar 29 ⟨a, 0, none⟩).run Tryz.prog W = .ok (.slice o n c) W := by
    go_simp
  have hl2 : (loadVar 4 ⟨b, 0, none⟩).run Tryz.prog W = .ok (.bool x) W := by
    go_simp
  rw [results_cells2 rfl, hp, hq]
  simp [asAddr, hl, hl2, Result.andThen]
def BetEnd (r : RuleD) (start from_ to_ most : Int) (w : World) (e : Ending) (w' : World) : Prop :=
  ∃ v, e = .returned (.tuple #[v, .bool (betweenF r start from_ to_ most).2]) ∧ w'.ownsRow w.heap.size 2 1 v (betweenF r start from_ to_ most).1.length (inC (betweenF r start from_ to_ most).1) ∧ Below w.heap.size w w'

/-- What Between lays into what it hands back. -/
theorem fill2_spec (W : World) (a : Nat) (v v0 : Value) (b z : Bool) (hZ : W.heap[a]? = some (.cells #[v0] 29 (0, 0))) (hK : W.heap[a + 1]? = some (.cells #[.bool z] 4 (0, 0))) :
    ((W.setCell ⟨a, 0, none⟩ v).setCell ⟨a + 1, 0, none⟩ (.bool b)).heap[a]? = some (.cells #[v] 29 (0, 0)) ∧ ((W.setCell ⟨a, 0, none⟩ v).setCell ⟨a + 1, 0, none⟩ (.bool b)).heap[a + 1]? = some (.cells #[.bool b] 4 (0, 0)) ∧
      (∀ k, k ≠ a → k ≠ a + 1 → ((W.setCell ⟨a, 0, none⟩ v).setCell ⟨a + 1, 0, none⟩ (.bool b)).heap[k]? = W.heap[k]?) ∧
      ((W.setCell ⟨a, 0, none⟩ v).setCell ⟨a + 1, 0, none⟩ (.bool b)).heap.size = W.heap.size := by
  have o : ∀ (k b j : Nat) (u : Value) (X : World), k ≠ b → (X.setCell ⟨b, j, none⟩ u).heap[k]? = X.heap[k]? := fun k b j u X h => Below.heap_setCell _ _ _ _ h
  have g1 : (W.setCell ⟨a, 0, none⟩ v).heap[a]? = some (.cells #[v] 29 (0, 0)) := heap_setCell_same _ _ 0 _ _ _ hZ
  have g2 : (W.setCell ⟨a, 0, none⟩ v).heap[a + 1]? = some (.cells #[.bool z] 4 (0, 0)) := (o _ _ _ _ _ (by omega)).trans hK
  refine ⟨(o _ _ _ _ _ (by omega)).trans g1, heap_setCell_same _ _ 0 _ _ _ g2, fun k h1 h2 => (o _ _ _ _ _ h2).trans (o _ _ _ _ _ h1), by simp [World.setCell]⟩
theorem own_slice {w : World} {B : Nat} {e : TypeId} {sz : Nat} {v : Value} {n : Nat} {xs : List Value} (h : w.ownsRow B e sz v n xs) : ∃ o m c, v = .slice o m c := by
  obtain ⟨h1, h2 | ⟨g, cap, cur, e, _⟩⟩ := h
  · exact ⟨_, _, _, h2.1⟩
  · exact ⟨_, _, _, e⟩
theorem own_same {W W' : World} {B : Nat} {e : TypeId} {z n : Nat} {v : Value} {xs : List Value} (h : W.ownsRow B e z v n xs) (hk : ∀ k, v.ownBlock = some k → W'.heap[k]? = W.heap[k]?) : W'.ownsRow B e z v n xs := by
  obtain ⟨h1, h2 | ⟨g, cap, cur, e, a1, a2, a3⟩⟩ := h
  · exact ⟨h1, .inl h2⟩
  · subst e
    exact ⟨h1, .inr ⟨g, cap, cur, rfl, a1, (hk g rfl).trans a2, a3⟩⟩
/-- How Between ends. -/
theorem bet_ends {r : RuleD} {start from_ to_ most : Int} {tmps : Array Value} {w W : World} {a : Nat} {xs : List Int} {ok : Bool} {v : Value} {B : Nat} (Ds : List Nat) (hxs : betweenF r start from_ to_ most = (xs, ok))
    (hp : tmps.getD 10 undef = .pointer (some ⟨a, 0, none⟩)) (hq : tmps.getD 11 undef = .pointer (some ⟨a + 1, 0, none⟩)) (ha : W.heap[a]? = some (.cells #[v] 29 (0, 0))) (hb : W.heap[a + 1]? = some (.cells #[.bool ok] 4 (0, 0)))
    (ho : W.ownsRow B 2 1 v xs.length (inC xs)) (hB : w.heap.size ≤ B) (hbel : Below w.heap.size w W) (hn : Ds.Nodup) (hD : ∀ D ∈ Ds, W.heap[D]? = some (.deferred (some []))) (hDa : a ∉ Ds ∧ a + 1 ∉ Ds) (hDw : ∀ D ∈ Ds, w.heap.size ≤ D) (hDv : ∀ k, v.ownBlock = some k → k ∉ Ds) :
    bodyPostM Fence.wide 5 Tryz.prog Tryz.f88 (BetEnd r start from_ to_ most w) Exit.ret { tmps := tmps, defers := Ds.map markOf } W := by
  obtain ⟨o, m, c, rfl⟩ := own_slice ho
  refine leaves_marks (by simp) Ds W hn hD (fun W' k1 k2 k3 k4 k5 => ⟨_, bet_results tmps W' a (a + 1) o m c ok hp hq ((k1 _ hDa.1).trans ha) ((k1 _ hDa.2).trans hb), ⟨.slice o m c, by rw [hxs], ?_, ?_⟩⟩)
  · rw [hxs]
    exact own_base (own_same ho (fun k hk => k1 k (hDv k hk))) hB
  · exact hbel.trans ⟨k2, k3, k4, k5, fun k hk => k1 k (fun h => by have := hDw k h; omega)⟩

set_option maxRecDepth 100000 in
set_option maxHeartbeats 8000000 in
theorem between_no (cs : List Value) (r : RuleD) (start from_ to_ most : Int) (w : World) (h : rRule w cs r) (hf : fewR r) (hno : ¬ (mayR r ∧ startOk start) ∨ to_ ≤ from_ ∨ to_ ≤ start) :
    CallsIn Fence.wide 5 Tryz.prog 88 #[.agg cs.toArray, .int .i64 start, .int .i64 from_, .int .i64 to_, .int .i64 most] w (BetEnd r start from_ to_ most w) := by
  have SR := Lib.hid h
  obtain ⟨m, d, y, p, rfl, -, -, -, -, -, hm, hd, hy, hp⟩ := h
  obtain ⟨om, nm, cm, rfl, lm, -, -, RM⟩ := hm.open
  obtain ⟨od, nd, cd, rfl, ld, -, -, RD⟩ := hd.open
  obtain ⟨oy, ny, cy, rfl, ly, -, -, RY⟩ := hy.open
  obtain ⟨op, np, cp, rfl, lp, -, -, RP⟩ := hp.open
  clear hm hd hy hp RM RD RY RP lm ld ly lp
  obtain ⟨W6, hW6⟩ : ∃ W6, W6 = ((((((w.alloc (.cells #[.int .i64 r.freq, .int .i64 r.interval, .int .i64 r.count, .int .i64 r.until_, .slice om nm cm, .slice od nd cd, .slice oy ny cy, .slice op np cp, .int .i64 r.start] 28)).alloc (.cells #[.int .i64 from_] 2)).alloc (.cells #[.int .i64 to_] 2)).alloc (.cells #[.int .i64 most] 3)).alloc (.cells #[.slice none 0 0] 29)).alloc (.cells #[.bool false] 4)) := ⟨_, rfl⟩
  have hs6 : W6.heap.size = w.heap.size + 6 := by rw [hW6]; simp
  have hp6 : W6.heap = w.heap ++ #[.cells #[.int .i64 r.freq, .int .i64 r.interval, .int .i64 r.count, .int .i64 r.until_, .slice om nm cm, .slice od nd cd, .slice oy ny cy, .slice op np cp, .int .i64 r.start] 28, .cells #[.int .i64 from_] 2, .cells #[.int .i64 to_] 2, .cells #[.int .i64 most] 3, .cells #[.slice none 0 0] 29, .cells #[.bool false] 4] := by
    rw [hW6]
    show (((((w.heap.push _).push _).push _).push _).push _).push _ = _
    apply Array.ext'
    simp
  have g6 : ∀ (j : Nat), W6.heap[w.heap.size + j]? = (#[Obj.cells #[.int .i64 r.freq, .int .i64 r.interval, .int .i64 r.count, .int .i64 r.until_, .slice om nm cm, .slice od nd cd, .slice oy ny cy, .slice op np cp, .int .i64 r.start] 28, .cells #[.int .i64 from_] 2, .cells #[.int .i64 to_] 2, .cells #[.int .i64 most] 3, .cells #[.slice none 0 0] 29, .cells #[.bool false] 4] : Array Obj)[j]? := fun j => by
    rw [hp6, Array.getElem?_append_right (by omega)]; congr 1; omega
  have b6 : Below w.heap.size w W6 := by rw [hW6]; exact belowA _ (belowA _ (belowA _ (belowA _ (belowA _ (belowA _ (Below.refl _ _))))))
  have HE := Lib.hid (show betweenF r start from_ to_ most = ([], true) by
    unfold betweenF
    rw [if_pos]
    rcases hno with h | h
    · exact .inl (dec_f h)
    · exact .inr h)
  have HG := Lib.hid g6; have HB6 := Lib.hid b6
  by_cases hyes : mayR r ∧ startOk start
  · have WK := Lib.hid (walk_yes _ r start W6 (SR.out.later b6) hf hyes.1 hyes.2)
    have hno2 : to_ ≤ from_ ∨ to_ ≤ start := hno.elim (fun h => absurd hyes h) id
    unfold startOk at hyes
    clear hno hp6 b6 g6 hf
    by_cases h1 : to_ ≤ from_
    all_goals
      first
        | (have d1 : decide (to_ ≤ from_) = true := decide_eq_true h1)
        | (have d1 : decide (to_ ≤ from_) = false := decide_eq_false h1; have h2 : to_ ≤ start := hno2.elim (fun h => absurd h h1) id; have d2 := decide_eq_true h2)
      clear hno2
      refine callsIn_of_wp_marks Tryz.func88 rfl trivial ?_ rfl
      simp only [Tryz.ntmps88, List.size_toArray, List.length_cons, List.length_nil, Nat.reduceAdd, Nat.reduceSub, Array.replicate_succ, Array.replicate_zero, List.push_toArray, List.append_toArray, List.nil_append, List.cons_append]
      gi_wp2
      refine ⟨trivial, ?_⟩
      rw [← hW6]
      refine (callsIn_wide.2 WK.out).mono ?_
      rintro e w1 ⟨bk, rfl, hbk, -, hb1⟩
      have HB1 := Lib.hid hb1
      have gR : w1.heap[w.heap.size + 1 + 1 + 1 + 1]? = some (.cells #[.slice none 0 0] 29 (0, 0)) := (hb1.block _ (by omega)).trans (HG.out 4)
      have gK : w1.heap[w.heap.size + 1 + 1 + 1 + 1 + 1]? = some (.cells #[.bool false] 4 (0, 0)) := (hb1.block _ (by omega)).trans (HG.out 5)
      have gF : w1.heap[w.heap.size + 1]? = some (.cells #[.int .i64 from_] 2 (0, 0)) := (hb1.block _ (by omega)).trans (HG.out 1)
      have gT : w1.heap[w.heap.size + 1 + 1]? = some (.cells #[.int .i64 to_] 2 (0, 0)) := (hb1.block _ (by omega)).trans (HG.out 2)
      have kR : w1.cell? ⟨w.heap.size + 1 + 1 + 1 + 1, 0, none⟩ = some (.slice none 0 0) := by rw [cell_of_row _ _ _ _ _ _ gR]; rfl
      have kK : w1.cell? ⟨w.heap.size + 1 + 1 + 1 + 1 + 1, 0, none⟩ = some (.bool false) := by rw [cell_of_row _ _ _ _ _ _ gK]; rfl
      have kF : w1.cell? ⟨w.heap.size + 1, 0, none⟩ = some (.int .i64 from_) := by rw [cell_of_row _ _ _ _ _ _ gF]; rfl
      have kT : w1.cell? ⟨w.heap.size + 1 + 1, 0, none⟩ = some (.int .i64 to_) := by rw [cell_of_row _ _ _ _ _ _ gT]; rfl
      have fR : w1.frozen? ⟨w.heap.size + 1 + 1 + 1 + 1, 0, none⟩ = false := frozen_of_row _ _ _ _ _ gR
      have fK : w1.frozen? ⟨w.heap.size + 1 + 1 + 1 + 1 + 1, 0, none⟩ = false := frozen_of_row _ _ _ _ _ gK
      have GR := Lib.hid (And.intro gR gK)
      clear hb1 gR gK gF gT
      gi_wp2
      have F := fill2_spec w1 (w.heap.size + 1 + 1 + 1 + 1) (.slice none 0 0) _ true false GR.out.1 GR.out.2
      have hb := HB6.out.trans (HB1.out.mono HB6.out.size)
      exact bet_ends [] HE.out rfl rfl F.1 F.2.1 (B := w.heap.size) (World.ownsRow_nil _ _ _ _) (Nat.le_refl _) ((hb.setCell (by simp <;> omega) _).setCell (by simp <;> omega) _) (by simp) (by simp) (by simp) (by simp) (by simp)
  · have WK := Lib.hid (walk_no _ r start W6 (SR.out.later b6) hf hyes)
    clear hno hyes hp6 b6 g6 hf
    refine callsIn_of_wp_marks Tryz.func88 rfl trivial ?_ rfl
    simp only [Tryz.ntmps88, List.size_toArray, List.length_cons, List.length_nil, Nat.reduceAdd, Nat.reduceSub, Array.replicate_succ, Array.replicate_zero, List.push_toArray, List.append_toArray, List.nil_append, List.cons_append]
    gi_wp2
    refine ⟨trivial, ?_⟩
    rw [← hW6]
    refine (callsIn_wide.2 WK.out).mono ?_
    rintro e w1 ⟨rfl, hb1⟩
    have HB1 := Lib.hid hb1
    have gR : w1.heap[w.heap.size + 1 + 1 + 1 + 1]? = some (.cells #[.slice none 0 0] 29 (0, 0)) := (hb1.block _ (by omega)).trans (HG.out 4)
    have gK : w1.heap[w.heap.size + 1 + 1 + 1 + 1 + 1]? = some (.cells #[.bool false] 4 (0, 0)) := (hb1.block _ (by omega)).trans (HG.out 5)
    have kR : w1.cell? ⟨w.heap.size + 1 + 1 + 1 + 1, 0, none⟩ = some (.slice none 0 0) := by rw [cell_of_row _ _ _ _ _ _ gR]; rfl
    have kK : w1.cell? ⟨w.heap.size + 1 + 1 + 1 + 1 + 1, 0, none⟩ = some (.bool false) := by rw [cell_of_row _ _ _ _ _ _ gK]; rfl
    have fR : w1.frozen? ⟨w.heap.size + 1 + 1 + 1 + 1, 0, none⟩ = false := frozen_of_row _ _ _ _ _ gR
    have fK : w1.frozen? ⟨w.heap.size + 1 + 1 + 1 + 1 + 1, 0, none⟩ = false := frozen_of_row _ _ _ _ _ gK
    have GR := Lib.hid (And.intro gR gK)
    clear hb1 gR gK
    gi_wp2
    have F := fill2_spec w1 (w.heap.size + 1 + 1 + 1 + 1) (.slice none 0 0) _ true false GR.out.1 GR.out.2
    have hb := HB6.out.trans (HB1.out.mono HB6.out.size)
    exact bet_ends [] HE.out rfl rfl F.1 F.2.1 (B := w.heap.size) (World.ownsRow_nil _ _ _ _) (Nat.le_refl _) ((hb.setCell (by simp <;> omega) _).setCell (by simp <;> omega) _) (by simp) (by simp) (by simp) (by simp) (by simp)
end Go.Proofs.YtechgcjdigpglaaGreat
