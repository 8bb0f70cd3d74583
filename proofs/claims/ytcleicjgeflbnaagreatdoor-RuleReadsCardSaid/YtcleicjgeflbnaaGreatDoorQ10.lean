/- The walk of the law RuleReads: it answers true. Conditions: the tables are laid, the errors of strconv lie in their boxes. -/
import Derived.Test.YtcleicjgeflbnaaGreatDoorQ7
import Derived.Test.YtcleicjgeflbnaaGreatDoorQ9
namespace Go.Proofs.YtcleicjgeflbnaaGreatDoor
open Go.RowKit Go.ChangeShapes Go.WideShapes Go.Deep
set_option linter.all false

/-- A box of the caller's lies as it was laid. -/
structure BxAt (b : Nat) (bx : Array Value) (W : World) : Prop where
  cell : ∀ j, W.cell? ⟨b, j, none⟩ = bx[j]?
  lt : b < W.heap.size
theorem BxAt.below {b : Nat} {bx : Array Value} {W W' : World} (h : BxAt b bx W) (hb : Below W.heap.size W W') : BxAt b bx W' :=
  ⟨fun j => (hb.cell (p := ⟨b, j, none⟩) h.lt).trans (h.cell j), Nat.lt_of_lt_of_le h.lt hb.size⟩
theorem BxAt.drew {b : Nat} {bx : Array Value} {W : World} (h : BxAt b bx W) : BxAt b bx W.drew := ⟨h.cell, h.lt⟩
theorem BxAt.new (W : World) (bx : Array Value) (t : TypeId) : BxAt W.heap.size bx (W.alloc (.cells bx t)) :=
  ⟨fun j => cell_of_row _ _ _ _ _ _ (heap_alloc_new W (.cells bx t)), by simp⟩
theorem zero_rel (W : World) : rRule W zeroC.toList ruleZ := ⟨.slice none 0 0, .slice none 0 0, .slice none 0 0, .slice none 0 0, rfl, by decide, by decide, by decide, by decide, by decide, nil_row _ _ _, nil_row _ _ _, nil_row _ _ _, nil_row _ _ _⟩

set_option maxRecDepth 100000 in
set_option maxHeartbeats 20000000 in
theorem reads_walk (s : ByteArray) (w : World) (hL : Laid w) (hE : Errs w) : Calls Tryz.prog 3 #[.string s] w fun e w' => e = .returned (.bool true) ∧ Below w.heap.size w w' := by
  have HL := Lib.hid hL; have HE := Lib.hid hE
  have FX := Lib.hid (fun (W : World) (hb : Below w.heap.size w W) => fixed_any W (HL.out.later hb) (HE.out.later hb))
  have B0 := Lib.hid (Below.refl w.heap.size w)
  by_cases h : 5000 < s.size
  · have h' : (5000 : Int) < (s.size : Int) := by omega
    clear hL hE
    go_enter Tryz.func3, Tryz.ntmps3
    go_wp2_with (go_at_call 7; ((with_reducible refine (FX.out _ B0.out).mono ?_); rintro e w1 ⟨rfl, hb⟩))
    go_ret
    exact ⟨rfl, hb⟩
  · have h' : ¬ (5000 : Int) < (s.size : Int) := by omega
    have RD := Lib.hid (read_any s w hL hE (by omega))
    clear hL hE h
    go_enter Tryz.func3, Tryz.ntmps3
    go_wp2_with fail
    (with_reducible refine (RD.out).mono ?_)
    rintro e w1 (⟨r, cs, hr, hm, hx, rfl, hrel, hfew, hb⟩ | ⟨hno, rfl, hb⟩)
    · have SR := Lib.hid hrel
      have HB1 := Lib.hid hb
      have HFEW := Lib.hid hfew
      have HM := Lib.hid hm
      obtain ⟨mr, dr, yr, pr, rfl, -, -, -, -, -, rmr, rdr, ryr, rpr⟩ := hrel
      obtain ⟨omr, nmr, cmr, rfl, -, -, -, Rmr⟩ := rmr.open
      obtain ⟨odr, ndr, cdr, rfl, -, -, -, Rdr⟩ := rdr.open
      obtain ⟨oyr, nyr, cyr, rfl, -, -, -, Ryr⟩ := ryr.open
      obtain ⟨opr, npr, cpr, rfl, -, -, -, Rpr⟩ := rpr.open
      clear rmr rdr ryr rpr Rmr Rdr Ryr Rpr
      have X0 := Lib.hid (BxAt.new w1 #[.int .i64 r.freq, .int .i64 r.interval, .int .i64 r.count, .int .i64 r.until_, .slice omr nmr cmr, .slice odr ndr cdr, .slice oyr nyr cyr, .slice opr npr cpr, .int .i64 r.start] 26)
      have Y0 := Lib.hid (show Below w.heap.size w (w1.alloc (.cells #[.int .i64 r.freq, .int .i64 r.interval, .int .i64 r.count, .int .i64 r.until_, .slice omr nmr cmr, .slice odr ndr cdr, .slice oyr nyr cyr, .slice opr npr cpr, .int .i64 r.start] 26)) from belowA _ HB1.out)
      have M10 := Lib.hid (fun (W : World) (hb : Below w1.heap.size w1 W) => c_t (refMay_any _ r W (SR.out.later hb) HFEW.out) HM.out)
      have T11 := Lib.hid (fun (W : World) (hb : Below w1.heap.size w1 W) => refText_any _ r W (SR.out.later hb) HFEW.out HM.out)
      rw [hx] at T11
      have hss : (s.toList == s.toList) = true := by simp
      have Z1 := Lib.hid (show Below w1.heap.size w1 (w1.alloc (.cells #[.int .i64 r.freq, .int .i64 r.interval, .int .i64 r.count, .int .i64 r.until_, .slice omr nmr cmr, .slice odr ndr cdr, .slice oyr nyr cyr, .slice opr npr cpr, .int .i64 r.start] 26)) from belowA _ (Below.refl _ _))
      have X1 := X0
      clear hb hm hfew hr hx X0
      go_wp2_with (first
        | (go_at_call 7; ((with_reducible refine (FX.out _ Y0.out).mono ?_); rintro e w2 ⟨rfl, hb2⟩; have X2 := Lib.hid (X1.out.below hb2); have kA2 := X2.out.cell; have Z2 := Lib.hid (Z1.out.trans (hb2.mono Z1.out.size)); clear hb2))
        | (go_at_call 10; ((with_reducible refine (M10.out _ Z2.out).mono ?_); rintro e w3 ⟨rfl, hb3⟩; have X3 := Lib.hid (X2.out.below hb3); have kA3 := X3.out.cell; have Z3 := Lib.hid (Z2.out.trans (hb3.mono Z2.out.size)); clear hb3))
        | (go_at_call 11; ((with_reducible refine (T11.out _ Z3.out).mono ?_); rintro e w4 ⟨rfl, hb4⟩; have X4 := Lib.hid (X3.out.below hb4); have kA4 := X4.out.cell; have Z4 := Lib.hid (Z3.out.trans (hb4.mono Z3.out.size)); clear hb4)))
      go_ret
      exact ⟨rfl, HB1.out.trans (Z4.out.mono HB1.out.size)⟩
    · have HB1 := Lib.hid hb
      have X1 := Lib.hid (BxAt.new w1 #[.int .i64 0, .int .i64 0, .int .i64 0, .int .i64 0, .slice none 0 0, .slice none 0 0, .slice none 0 0, .slice none 0 0, .int .i64 0] 26)
      have Y0 := Lib.hid (show Below w.heap.size w (w1.alloc (.cells #[.int .i64 0, .int .i64 0, .int .i64 0, .int .i64 0, .slice none 0 0, .slice none 0 0, .slice none 0 0, .slice none 0 0, .int .i64 0] 26)) from belowA _ HB1.out)
      have Z1 := Lib.hid (show Below w1.heap.size w1 (w1.alloc (.cells #[.int .i64 0, .int .i64 0, .int .i64 0, .int .i64 0, .slice none 0 0, .slice none 0 0, .slice none 0 0, .slice none 0 0, .int .i64 0] 26)) from belowA _ (Below.refl _ _))
      have E9 := Lib.hid (fun (W : World) (_ : Below w1.heap.size w1 W) => (show Calls Tryz.prog 9 #[.agg #[.int .i64 0, .int .i64 0, .int .i64 0, .int .i64 0, .slice none 0 0, .slice none 0 0, .slice none 0 0, .slice none 0 0, .int .i64 0], .agg #[.int .i64 0, .int .i64 0, .int .i64 0, .int .i64 0, .slice none 0 0, .slice none 0 0, .slice none 0 0, .slice none 0 0, .int .i64 0]] W (fun e w' => e = .returned (.bool true) ∧ Below W.heap.size W w') from c_t (rule_any zeroC.toList zeroC.toList ruleZ ruleZ W (zero_rel W) (zero_rel W)) rfl))
      clear hb hno
      go_wp2_with (first
        | (go_at_call 7; ((with_reducible refine (FX.out _ Y0.out).mono ?_); rintro e w2 ⟨rfl, hb2⟩; have X2 := Lib.hid (X1.out.below hb2); have kA2 := X2.out.cell; have Z2 := Lib.hid (Z1.out.trans (hb2.mono Z1.out.size)); clear hb2))
        | (go_at_call 9; ((with_reducible refine (E9.out _ Z2.out).mono ?_); rintro e w3 ⟨rfl, hb3⟩; have X3 := Lib.hid (X2.out.below hb3); have kA3 := X3.out.cell; have Z3 := Lib.hid (Z2.out.trans (hb3.mono Z2.out.size)); clear hb3)))
      go_ret
      exact ⟨rfl, HB1.out.trans (Z3.out.mono HB1.out.size)⟩
end Go.Proofs.YtcleicjgeflbnaaGreatDoor
