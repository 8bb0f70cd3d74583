/- event.Members: the walk. Conditions: event and zone read, the rows are not too long. -/
import Derived.Test.YtechgcjdigpglaaGreatQD
namespace Go.Proofs.YtechgcjdigpglaaGreat
open Go.RowKit Go.ChangeShapes Go.WideShapes Go.Deep
set_option linter.all false

theorem memF_le (z : ZoneD) (a b f t : Int) : (memF z a b f t).length ≤ 1 := by unfold memF; split <;> simp
def memTo (z : ZoneD) (e : EventD) (f t : Int) (l : List Int) (k : Nat) : List (Int × Int) := (l.take k).flatMap fun x => memF z x e.long f t
theorem memTo_step {z : ZoneD} {e : EventD} {f t : Int} {l : List Int} {k : Nat} {x : Int} (h : l[k]? = some x) : memTo z e f t l (k + 1) = memTo z e f t l k ++ memF z x e.long f t := by
  unfold memTo; rw [List.take_add_one, h, List.flatMap_append]; simp
theorem memTo_le (z : ZoneD) (e : EventD) (f t : Int) (l : List Int) : ∀ k, k ≤ l.length → (memTo z e f t l k).length ≤ k
  | 0, _ => by simp [memTo]
  | k + 1, h => by
    have := memTo_le z e f t l k (by omega)
    have := memF_le z (l[k]'(by omega)) e.long f t
    rw [memTo_step (List.getElem?_eq_getElem (by omega)), List.length_append]; omega
noncomputable def chTo (z : ZoneD) (e : EventD) (f t : Int) (k : Nat) : List (Int × Int) := ((e.changes.take k).filter fun c => dec (atE e c.at_)).flatMap fun c => memF z c.start c.long f t
theorem chTo_step {z : ZoneD} {e : EventD} {f t : Int} {k : Nat} {c : ChangeD} (h : e.changes[k]? = some c) : chTo z e f t (k + 1) = chTo z e f t k ++ if dec (atE e c.at_) = true then memF z c.start c.long f t else [] := by
  unfold chTo
  rw [List.take_add_one, h, List.filter_append, List.flatMap_append]
  congr 1
  cases hd : dec (atE e c.at_) <;> simp [List.filter_cons, hd]
theorem chTo_le (z : ZoneD) (e : EventD) (f t : Int) : ∀ k, k ≤ e.changes.length → (chTo z e f t k).length ≤ k
  | 0, _ => by simp [chTo]
  | k + 1, h => by
    have := chTo_le z e f t k (by omega)
    have h2 := memF_le z (e.changes[k]'(by omega)).start (e.changes[k]'(by omega)).long f t
    rw [chTo_step (List.getElem?_eq_getElem (by omega)), List.length_append]
    split
    · omega
    · simp; omega
theorem plnP.stamp {e : EventD} {a b x : Int} (hm : mayE e) (h : plnP e a b x) : startOk x := by
  cases ha : e.again with
  | false => rw [h.2.1 ha]; exact hm.1
  | true =>
    obtain ⟨_, hr, _, hp, _⟩ := hm.2.2.2.2 ha
    rcases (h.2.2 ha).1 with h1 | h1
    · have := mem_allT hr hm.1 h1
      have hs := hm.1
      unfold startOk at *
      omega
    · exact hp.1 x h1

set_option maxHeartbeats 40000000 in
set_option maxRecDepth 100000 in
theorem members_own (cz ce : List Value) (z : ZoneD) (e : EventD) (f t : Int) (w : World) (hz : rZone w cz z) (h : rEvent w ce e) (hf : fewE e) (hnz : z.turns.length ≤ 1000) (hok : askOk z e f t) (hwd : e.world = false) :
    Calls Tryz.prog 16 #[.agg cz.toArray, .agg ce.toArray, .agg #[.int .i64 f, .int .i64 t]] w (MemEnd z e f t w) := by
  have SE := Lib.hid h
  obtain ⟨om, nm, cm, od, nd, cd, oy, ny, cy, op, np, cp, oe, ne, ce, ol, nl, cl, oc, nc, cc, rfl, SR, l1, l2, l3, R1, R2, R3, -, -⟩ := h.opn
  have SZ := Lib.hid hz
  obtain ⟨tz, rfl, -, htz⟩ := hz
  obtain ⟨oz, nz, cz, rfl, -, -, -, -⟩ := htz.open
  have CM := Lib.hid (fun (W : World) (hb : Below w.heap.size w W) => c_t (mayE_any _ e W (SE.out.later hb) hf) hok.1)
  have CZ := Lib.hid (fun (W : World) (hb : Below w.heap.size w W) => c_t (zMay_any _ z W (SZ.out.later hb) hnz) hok.2.1)
  have HOK := Lib.hid (And.intro hok hwd)
  obtain ⟨hm, hmz, g1, g2, g3, g4⟩ := hok
  have hst := hm.1
  unfold startOk at hst
  have hl1 := hm.2.1
  have hl2 := hm.2.2.1
  have BP := Lib.hid (fun (W : World) (hb : Below w.heap.size w W) => plain_any _ e (f - e.long - 1800) (t + 1800) W (SE.out.later hb) hf hm (by omega) (by omega) (by omega) (by omega))
  have CAT := Lib.hid (fun (x : Int) (W : World) (hb : Below w.heap.size w W) => atE_any _ e x W (SE.out.later hb) hf)
  have MB := Lib.hid (fun (w0 : World) (B : Nat) (x long : Int) (v : Value) (L : List (Int × Int)) (W : World) (hb : Below w.heap.size w W) (h1 : startOk x) (h2 : 0 ≤ long ∧ long ≤ 10080) => member_any (w0 := w0) (B := B) _ z x long f t v L W (SZ.out.later hb) hmz h1.1 h1.2 h2.1 h2.2)
  have RC := Lib.hid R3
  have HNC := Lib.hid (And.intro l3 hf.c)
  have hnc : nc ≤ 10000 := by have := hf.c; omega
  have HLONG := Lib.hid (And.intro hl1 hl2)
  simp only [hwd] at CM CAT BP ⊢
  have HB := Lib.hid (show Below w.heap.size w (((w.alloc (.cells #[.int .i64 z.base, .slice oz nz cz] 24)).alloc (.cells #[.int .i64 e.start, .int .i64 e.long, .bool false, .bool e.again, .int .i64 e.rule.freq, .int .i64 e.rule.interval, .int .i64 e.rule.count, .int .i64 e.rule.until_, .slice om nm cm, .slice od nd cd, .slice oy ny cy, .slice op np cp, .int .i64 e.rule.start, .slice oe ne ce, .slice ol nl cl, .slice oc nc cc] 32)).alloc (.cells #[.int .i64 f, .int .i64 t] 34)) from belowA _ (belowA _ (belowA _ (Below.refl _ _))))
  have xz := BxAt.new w #[.int .i64 z.base, .slice oz nz cz] 24
  have xe := BxAt.new (w.alloc (.cells #[.int .i64 z.base, .slice oz nz cz] 24)) #[.int .i64 e.start, .int .i64 e.long, .bool false, .bool e.again, .int .i64 e.rule.freq, .int .i64 e.rule.interval, .int .i64 e.rule.count, .int .i64 e.rule.until_, .slice om nm cm, .slice od nd cd, .slice oy ny cy, .slice op np cp, .int .i64 e.rule.start, .slice oe ne ce, .slice ol nl cl, .slice oc nc cc] 32
  rw [show (w.alloc (.cells #[.int .i64 z.base, .slice oz nz cz] 24)).heap.size = w.heap.size + 1 by simp] at xe
  have xs := BxAt.new ((w.alloc (.cells #[.int .i64 z.base, .slice oz nz cz] 24)).alloc (.cells #[.int .i64 e.start, .int .i64 e.long, .bool false, .bool e.again, .int .i64 e.rule.freq, .int .i64 e.rule.interval, .int .i64 e.rule.count, .int .i64 e.rule.until_, .slice om nm cm, .slice od nd cd, .slice oy ny cy, .slice op np cp, .int .i64 e.rule.start, .slice oe ne ce, .slice ol nl cl, .slice oc nc cc] 32)) #[.int .i64 f, .int .i64 t] 34
  rw [show ((w.alloc (.cells #[.int .i64 z.base, .slice oz nz cz] 24)).alloc (.cells #[.int .i64 e.start, .int .i64 e.long, .bool false, .bool e.again, .int .i64 e.rule.freq, .int .i64 e.rule.interval, .int .i64 e.rule.count, .int .i64 e.rule.until_, .slice om nm cm, .slice od nd cd, .slice oy ny cy, .slice op np cp, .int .i64 e.rule.start, .slice oe ne ce, .slice ol nl cl, .slice oc nc cc] 32)).heap.size = w.heap.size + 1 + 1 by simp] at xs
  have XZ := Lib.hid (xz.below (belowA (.cells #[.int .i64 e.start, .int .i64 e.long, .bool false, .bool e.again, .int .i64 e.rule.freq, .int .i64 e.rule.interval, .int .i64 e.rule.count, .int .i64 e.rule.until_, .slice om nm cm, .slice od nd cd, .slice oy ny cy, .slice op np cp, .int .i64 e.rule.start, .slice oe ne ce, .slice ol nl cl, .slice oc nc cc] 32) (Below.refl _ _))|>.below (belowA (.cells #[.int .i64 f, .int .i64 t] 34) (Below.refl _ _)))
  have XE := Lib.hid (xe.below (belowA (.cells #[.int .i64 f, .int .i64 t] 34) (Below.refl _ _)))
  have XS := Lib.hid xs
  clear xz xe xs
  have hv1 : wrap64 (f - e.long) = f - e.long := by unfold wrap64; omega
  have hv2 : IntKind.i64.wrap (f - e.long) = f - e.long := by rw [IntKind.wrap_i64]; omega
  have hv3 : wrap64 (f - e.long - 1800) = f - e.long - 1800 := by unfold wrap64; omega
  have hv4 : IntKind.i64.wrap (f - e.long - 1800) = f - e.long - 1800 := by rw [IntKind.wrap_i64]; omega
  have hv5 : wrap64 (t + 1800) = t + 1800 := by unfold wrap64; omega
  have hv6 : IntKind.i64.wrap (t + 1800) = t + 1800 := by rw [IntKind.wrap_i64]; omega
  have hw1 : wrap64 (t - f) = t - f := by unfold wrap64; omega
  have hw2 : IntKind.i64.wrap (t - f) = t - f := by rw [IntKind.wrap_i64]; omega
  have d1 : decide (t ≤ f) = false := decide_eq_false (by omega)
  have d2 : decide (f < -1099511627776) = false := decide_eq_false (by omega)
  have d3 : decide (1099511627776 < t) = false := decide_eq_false (by omega)
  have d4 : decide (528480 < t - f) = false := decide_eq_false (by omega)
  have HST := Lib.hid (fun (x : Int) (h : plnP e (f - e.long - 1800) (t + 1800) x) => h.stamp hm)
  have HCH := Lib.hid (show ∀ c ∈ e.changes, changeOne c from fun c hc => by
    cases ha : e.again with
    | false => have := List.eq_nil_of_length_eq_zero (hm.2.2.2.1 ha).2.2.2; rw [this] at hc; cases hc
    | true => exact (hm.2.2.2.2 ha).2.2.2.2.1 c hc)
  have HWF := Lib.hid (show ∀ x, plnP e (f - e.long - 1800) (t + 1800) x → wfi .i64 x from fun x h => wfi_days (by have := (h.stamp hm).1; omega) (by have := (h.stamp hm).2; omega))
  clear SE SZ SR l1 l2 l3 R1 R2 R3 hf hnz htz h hm hmz g1 g2 g3 g4 hst hl1 hl2 hwd
  go_enter Tryz.func16, Tryz.ntmps16
  go_wp2_with (first
    | (go_at_call 13; ((with_reducible refine (CM.out _ HB.out).mono ?_)); rintro q w1 ⟨rfl, hb1⟩; have XZ1 := Lib.hid (XZ.out.below hb1); have XE1 := Lib.hid (XE.out.below hb1); have XS1 := Lib.hid (XS.out.below hb1); have kZ1 := XZ1.out.cell; have kE1 := XE1.out.cell; have kS1 := XS1.out.cell; have HB1 := Lib.hid (HB.out.trans (hb1.mono HB.out.size)); clear hb1)
    | (go_at_call 50; ((with_reducible refine (CZ.out _ HB1.out).mono ?_)); rintro q w2 ⟨rfl, hb2⟩; have XZ2 := Lib.hid (XZ1.out.below hb2); have XE2 := Lib.hid (XE1.out.below hb2); have XS2 := Lib.hid (XS1.out.below hb2); clear kZ1 kE1 kS1; have kZ2 := XZ2.out.cell; have kE2 := XE2.out.cell; have kS2 := XS2.out.cell; have HB2 := Lib.hid (HB1.out.trans (hb2.mono HB1.out.size)); clear hb2))
  (with_reducible refine (BP.out _ HB2.out).mono ?_)
  rintro q w3 ⟨vl, l, rfl, hol, hll, hl1, hl2, hb3⟩
  have RL := Lib.hid (row_ints hol fun x hx => HWF.out x ((hl2 x).1 hx))
  have HL := Lib.hid (And.intro hl1 hl2)
  have XZ3 := Lib.hid (XZ2.out.below hb3)
  have XE3 := Lib.hid (XE2.out.below hb3)
  have XS3 := Lib.hid (XS2.out.below hb3)
  have HB3 := Lib.hid (HB2.out.trans (hb3.mono HB2.out.size))
  obtain ⟨sl, scl, rfl⟩ := own_slice2 hol
  obtain ⟨nl_, hnl⟩ : ∃ n, n = l.length := ⟨_, rfl⟩
  rw [← hnl] at RL ⊢
  have HNL := Lib.hid hnl
  have hll2 : nl_ ≤ 20000 := by omega
  have kE3 := XE3.out.cell
  clear hol hl1 hl2 hb3 hnl hll kZ2 kE2 kS2
  go_wp2_with fail
  go_loopw [8, 85] (fun v i wr => ∃ k : Nat, k ≤ nl_ ∧ i = .int .i64 (k : Nat) ∧ Hid (wr.ownsRow w3.heap.size 34 2 v (memTo z e f t l k).length (spC (memTo z e f t l k))) ∧ Hid (Below w3.heap.size w3 wr)) (fun _ i _ => nl_ - (intOf i).toNat)
  case atStart => exact ⟨0, Nat.zero_le _, rfl, Lib.hid (by simp only [memTo, List.take_zero, List.flatMap_nil]; exact World.ownsRow_nil _ _ _ _), Lib.hid (Below.refl _ _)⟩
  case round =>
    obtain ⟨k, hk, rfl, HO, HBr⟩ := hrel
    obtain ⟨wl, rfl⟩ : ∃ x, x = wr := ⟨_, rfl⟩
    have HBW := Lib.hid (HB3.out.trans (HBr.out.mono HB3.out.size))
    have kZ := (XZ3.out.below HBr.out).cell
    have kE := (XE3.out.below HBr.out).cell
    have kS := (XS3.out.below HBr.out).cell
    by_cases hlt : k < nl_
    · have hlt' : (k : Int) < (nl_ : Int) := by omega
      obtain ⟨x, a1, hx, rfl, _, e0⟩ := RL.out.intAt HBr.out k hlt
      have HS := Lib.hid (memTo_step (z := z) (e := e) (f := f) (t := t) hx)
      have hle := memTo_le z e f t l k (by have := HNL.out; omega)
      have C := Lib.hid (MB.out w3 w3.heap.size x e.long u8 (memTo z e f t l k) wl HBW.out (HST.out x ((HL.out.2 x).1 (List.mem_of_getElem? hx))) ⟨by have := HLONG.out; omega, HLONG.out.2⟩ HO.out HBr.out HBr.out.size (by omega))
      clear hx hle
      go_wp2_with fail
      (with_reducible refine C.out.mono ?_)
      rintro q w4 ⟨v4, rfl, ho4, hb4⟩
      rw [← HS.out] at ho4
      have HO4 := Lib.hid ho4
      have HB4 := Lib.hid hb4
      clear ho4 hb4
      go_wp2_with fail
      go_roundw
      case measure => simp [intOf]; omega
      case rel => exact ⟨k + 1, by omega, by go_num, HO4, HB4⟩
    · obtain rfl : nl_ = k := by omega
      have hle1 := memTo_le z e f t l nl_ (by have := HNL.out; omega)
      obtain ⟨L1, hL1⟩ : ∃ L1, L1 = memTo z e f t l nl_ := ⟨_, rfl⟩
      rw [← hL1] at HO hle1
      have HL1 := Lib.hid hL1
      clear hL1
      go_wp2_with fail
      go_loopw [8, 100] (fun v i wr => ∃ k : Nat, k ≤ nc ∧ i = .int .i64 (k : Nat) ∧ Hid (wr.ownsRow w3.heap.size 34 2 v (L1 ++ chTo z e f t k).length (spC (L1 ++ chTo z e f t k))) ∧ Hid (Below w3.heap.size w3 wr)) (fun _ i _ => nc - (intOf i).toNat)
      case atStart => exact ⟨0, Nat.zero_le _, rfl, Lib.hid (by simpa [chTo] using HO.out), HBr⟩
      case round =>
        clear HO HBr HBW kZ kE kS
        obtain ⟨k, hk, rfl, HO, HBr⟩ := hrel
        obtain ⟨wl, rfl⟩ : ∃ x, x = wr := ⟨_, rfl⟩
        have HBW := Lib.hid (HB3.out.trans (HBr.out.mono HB3.out.size))
        have XZr := Lib.hid (XZ3.out.below HBr.out)
        have XEr := Lib.hid (XE3.out.below HBr.out)
        have XSr := Lib.hid (XS3.out.below HBr.out)
        have kE := XEr.out.cell
        by_cases hlt : k < nc
        · have hlt' : (k : Int) < (nc : Int) := by omega
          obtain ⟨c, a1, cs1, hx, rfl, q1, ⟨rfl, _, _, _⟩, q0, q2⟩ := RC.out.elem HBW.out k hlt
          have e0 := q0 (by decide)
          have e1 := q2 1 (by decide) (by decide)
          have e2 := q2 2 (by decide) (by decide)
          simp only [List.getElem?_cons_zero, List.getElem?_cons_succ] at e0 e1 e2
          have HS := Lib.hid (chTo_step (z := z) (f := f) (t := t) hx)
          have hle := chTo_le z e f t k (by have := HNC.out; omega)
          have HCO := Lib.hid (HCH.out c (List.mem_of_getElem? hx))
          have HC0 := Lib.hid (HBW.out.trans ((belowA (.cells #[.int .i64 c.at_, .int .i64 c.start, .int .i64 c.long] 44) (Below.refl wl.heap.size wl)).mono HBW.out.size))
          have XC0 := Lib.hid (BxAt.new wl #[.int .i64 c.at_, .int .i64 c.start, .int .i64 c.long] 44)
          have XE0 := Lib.hid (XEr.out.below (belowA (.cells #[.int .i64 c.at_, .int .i64 c.start, .int .i64 c.long] 44) (Below.refl wl.heap.size wl)))
          have kE0 := XE0.out.cell
          have AT := Lib.hid (CAT.out c.at_ _ HC0.out)
          have hla : (a1.add (k * 3)).block < wl.heap.size := World.block_lt_of_cell? _ _ e0
          clear q0 q1 q2 hx
          by_cases hat : atE e c.at_
          · have AT1 := Lib.hid (c_t AT.out hat)
            have HS2 := Lib.hid (show chTo z e f t (k + 1) = chTo z e f t k ++ memF z c.start c.long f t by rw [HS.out, if_pos (dec_t hat)])
            clear hat AT
            go_wp2_with fail
            (with_reducible refine AT1.out.mono ?_)
            rintro q w5 ⟨rfl, hb5⟩
            have hb5' : Below wl.heap.size wl w5 := (belowA (.cells #[.int .i64 c.at_, .int .i64 c.start, .int .i64 c.long] 44) (Below.refl wl.heap.size wl)).trans (hb5.mono (by simp))
            have XC5 := Lib.hid (XC0.out.below hb5)
            have kC5 := XC5.out.cell
            have kE5 := (XEr.out.below hb5').cell
            have kZ5 := (XZr.out.below hb5').cell
            have kS5 := (XSr.out.below hb5').cell
            have HB5 := Lib.hid (HBr.out.trans (hb5'.mono HBr.out.size))
            have HW5 := Lib.hid (HBW.out.trans (hb5'.mono HBW.out.size))
            have HO5 := Lib.hid (own_laterI HO.out hb5')
            have C := Lib.hid (MB.out w3 w3.heap.size c.start c.long u8 (L1 ++ chTo z e f t k) w5 HW5.out HCO.out.1 HCO.out.2 HO5.out HB5.out HB5.out.size (by simp; omega))
            clear hb5 hb5'
            go_wp2_with fail
            (with_reducible refine C.out.mono ?_)
            rintro q w6 ⟨v6, rfl, ho6, hb6⟩
            rw [List.append_assoc, ← HS2.out] at ho6
            have HO6 := Lib.hid ho6
            have HB6 := Lib.hid hb6
            clear ho6 hb6
            go_wp2_with fail
            go_roundw
            case measure => simp [intOf]; omega
            case rel => exact ⟨k + 1, by omega, by go_num, HO6, HB6⟩
          · have AT1 := Lib.hid (c_f AT.out hat)
            have HS2 := Lib.hid (show chTo z e f t (k + 1) = chTo z e f t k by rw [HS.out, if_neg (by rw [dec_f hat]; decide), List.append_nil])
            clear hat AT
            go_wp2_with fail
            (with_reducible refine AT1.out.mono ?_)
            rintro q w5 ⟨rfl, hb5⟩
            have hb5' : Below wl.heap.size wl w5 := (belowA (.cells #[.int .i64 c.at_, .int .i64 c.start, .int .i64 c.long] 44) (Below.refl wl.heap.size wl)).trans (hb5.mono (by simp))
            have HB5 := Lib.hid (HBr.out.trans (hb5'.mono HBr.out.size))
            have HO5 := Lib.hid (own_laterI HO.out hb5')
            clear hb5 hb5'
            go_wp2_with fail
            go_roundw
            case measure => simp [intOf]; omega
            case rel => exact ⟨k + 1, by omega, by go_num, Lib.hid (by rw [HS2.out]; exact HO5.out), HB5⟩
        · obtain rfl : nc = k := by omega
          have hle := chTo_le z e f t nc (by have := HNC.out; omega)
          have C := Lib.hid (sortSp_any HO.out HBr.out HBr.out.size (by simp; omega))
          go_wp2_with fail
          (with_reducible refine C.out.mono ?_)
          rintro q w7 ⟨rfl, L', hp, hs, ho, hb⟩
          have HE := Lib.hid (And.intro hp (And.intro hs (And.intro ho hb)))
          clear hp hs ho hb
          go_wp2_with fail
          go_ret
          obtain ⟨hp, hs, ho, hb⟩ := HE.out
          refine ⟨u8, L', rfl, own_low ho HB3.out.size, hs, ⟨fun hn => absurd HOK.out.1 hn, (fun _ hw => by rw [HOK.out.2] at hw; cases hw), fun _ _ => ⟨l, HL.out.1, HL.out.2, ?_⟩⟩, HB3.out.trans (hb.mono HB3.out.size)⟩
          rw [HL1.out] at hp
          have e1 : memTo z e f t l nl_ = l.flatMap fun x => memF z x e.long f t := by unfold memTo; rw [List.take_of_length_le (by have := HNL.out; omega)]
          have e2 : chTo z e f t nc = (e.changes.filter fun c => dec (atE e c.at_)).flatMap fun c => memF z c.start c.long f t := by unfold chTo; rw [List.take_of_length_le (by have := HNC.out; omega)]
          rw [e1, e2] at hp
          exact hp

end Go.Proofs.YtechgcjdigpglaaGreat
