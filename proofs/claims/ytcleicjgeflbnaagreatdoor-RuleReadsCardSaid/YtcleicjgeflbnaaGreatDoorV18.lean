/- What the listed variables give: the tables, the errors of strconv; a world for the witness. Conditions: the listed variables hold what the program's text lays. -/
import Derived.Test.YtcleicjgeflbnaaGreatDoorCards
import Derived.Test.YtcleicjgeflbnaaGreatDoorTie
import Derived.Test.YtcleicjgeflbnaaGreatDoorV17
import Derived.WalkKit
import Derived.ProofKit
import Derived.OpenShut
import Derived.ShutString
import Derived.Deep.DeepHandedRow
import Derived.Deep.DeepWitnessRowRef
import Derived.Lib.LaidTab
import Derived.Lib.LaidU8
import Derived.Below
import Derived.Carry
import Derived.Deep.DeepLaidRun
namespace Go.Proofs.YtcleicjgeflbnaaGreatDoor
open Go.ChangeShapes Go.WideShapes Go.ChangeAt Go.RowKit
set_option linter.all false

theorem own : ownKnob Tryz.prog.godebug = none := by kernel_rfl
theorem laidOut : laidOutB Tryz.prog = true := by kernel_rfl
theorem sp_eq : Lib.tabData .u8 Lib.asciiSpaceTab = (Rows.laid_strings_asciiSpace (H := Unit)) := by kernel_rfl
theorem p10_eq : Lib.tabData .u64 Lib.pow10Tab = (Rows.laid_internal_strconv_uint64pow10 (H := Unit)) := by kernel_rfl
theorem tab_of {W : World} {n : String} {g : Nat} {t e : TypeId} {m : Nat} {k : IntKind} {zs : List Int} (hr : Lib.VarReads Tryz.prog W n (Lib.tabData k zs)) (hgn : Tryz.prog.globalNamed n = some g) (htn : (Tryz.prog.globals[g]?).map (·.type) = some t)
    (hu : Tryz.prog.underlying t = some (.array m e)) (he : Tryz.prog.underlying e = some (.int k)) (hce : Tryz.prog.cellsOf e = 1) (hct : Tryz.prog.cellsOf t = m) : Lib.TabIs Tryz.prog W n k zs := by
  obtain ⟨g', t', cs, fuel, p, hg, ht, hvar, hd⟩ := hr
  obtain rfl := Option.some.inj (hgn.symm.trans hg)
  obtain rfl := Option.some.inj (htn.symm.trans ht)
  unfold Lib.TabIs
  rw [hvar, ← Lib.cells_of_tab hu he hce hct hd]
theorem err_of {W : World} {n : String} {g : Nat} {t : TypeId} {d : DataW Unit} (hr : Lib.VarReads Tryz.prog W n d) (hgn : Tryz.prog.globalNamed n = some g) (htn : (Tryz.prog.globals[g]?).map (·.type) = some t)
    {i : _} (hu : Tryz.prog.underlying t = some (.interface i)) : ∃ ev, W.cell? ⟨g, 0, none⟩ = some ev ∧ (ev = .nilIface ∨ ∃ te pe, ev = .iface te pe) := by
  obtain ⟨g', t', cs, fuel, p, hg, ht, hvar, hd⟩ := hr
  obtain rfl := Option.some.inj (hgn.symm.trans hg)
  obtain rfl := Option.some.inj (htn.symm.trans ht)
  have hc := World.var?_cell hgn hvar 0
  cases fuel with
  | zero => simp [DataW.trod] at hd
  | succ fuel =>
    unfold DataW.trod at hd
    rw [hu] at hd
    rcases cs with ⟨l⟩
    simp only at hd
    split at hd <;> first | (simp_all; done) | skip
    all_goals first
      | exact ⟨.nilIface, by rw [hc]; simp_all, .inl rfl⟩
      | exact ⟨_, by rw [hc]; simp_all; rfl, .inr ⟨_, _, rfl⟩⟩
      | simp_all
abbrev LL : List (String × DataW Unit) := Rows.rulePartsRow.laid
theorem laid_of {W : World} (h : laidMet Tryz.prog LL W) : Laid W :=
  ⟨tab_of (Lib.laidMet.reads h (by rw [sp_eq]; repeat (first | exact List.mem_cons_self .. | apply List.mem_cons_of_mem))) (by kernel_rfl : Tryz.prog.globalNamed "strings.asciiSpace" = some 0) (by kernel_rfl : (Tryz.prog.globals[0]?).map (·.type) = some 70) Tryz.underlying70 Tryz.underlying5 (by kernel_rfl) (by kernel_rfl),
   tab_of (Lib.laidMet.reads h (by rw [p10_eq]; repeat (first | exact List.mem_cons_self .. | apply List.mem_cons_of_mem))) (by kernel_rfl : Tryz.prog.globalNamed "internal/strconv.uint64pow10" = some 5) (by kernel_rfl : (Tryz.prog.globals[5]?).map (·.type) = some 170) Tryz.underlying170 Tryz.underlying142 (by kernel_rfl) (by kernel_rfl)⟩
theorem errs_of {W : World} (h : laidMet Tryz.prog LL W) : Errs W :=
  ⟨err_of (Lib.laidMet.reads h (show ("strconv.ErrSyntax", Rows.laid_strconv_ErrSyntax) ∈ LL by repeat (first | exact List.mem_cons_self .. | apply List.mem_cons_of_mem))) (by kernel_rfl : Tryz.prog.globalNamed "strconv.ErrSyntax" = some 6) (by kernel_rfl : (Tryz.prog.globals[6]?).map (·.type) = some 83) Tryz.underlying83,
   err_of (Lib.laidMet.reads h (show ("strconv.ErrRange", Rows.laid_strconv_ErrRange) ∈ LL by repeat (first | exact List.mem_cons_self .. | apply List.mem_cons_of_mem))) (by kernel_rfl : Tryz.prog.globalNamed "strconv.ErrRange" = some 7) (by kernel_rfl : (Tryz.prog.globals[7]?).map (·.type) = some 83) Tryz.underlying83⟩

/-- A world for the witness: the settled one with four blocks more, all listed variables holding what their initialisers lay. -/
noncomputable def laidWorld (os : Os) : World :=
  let N := (World.settled Tryz.prog os).heap.size
  let w0 := World.holding Tryz.prog os ⟨#[.cells (Lib.whiteT.map fun (z : Nat) => Value.int .u16 (z : Int)).toArray 136, .cells #[.slice (some ⟨N, 0, none⟩) 7 7, .slice none 0 0, .int .i64 2] 133, .cells #[.string ⟨#[105, 110, 118, 97, 108, 105, 100, 32, 115, 121, 110, 116, 97, 120]⟩] 210, .cells #[.string ⟨#[118, 97, 108, 117, 101, 32, 111, 117, 116, 32, 111, 102, 32, 114, 97, 110, 103, 101]⟩] 210], #[], []⟩
  let put (h : Array Obj) (g : Nat) (cs : Array Value) : Array Obj := h.modify g fun
    | .cells _ t frozen => .cells cs t frozen
    | o => o
  let h1 := put w0.heap 0 (Lib.asciiSpaceTab.map fun z => Value.int .u8 z).toArray
  let h2 := put h1 1 #[.pointer (some ⟨N + 1, 0, none⟩)]
  let h3 := put h2 3 (Go.Pinned.utf8FirstZ.map fun (z : Nat) => Value.int .u8 (z : Int)).toArray
  let h4 := put h3 4 #[.int .u8 128, .int .u8 191, .int .u8 160, .int .u8 191, .int .u8 128, .int .u8 159, .int .u8 144, .int .u8 191, .int .u8 128, .int .u8 143, .int .u8 0, .int .u8 0, .int .u8 0, .int .u8 0, .int .u8 0, .int .u8 0, .int .u8 0, .int .u8 0, .int .u8 0, .int .u8 0, .int .u8 0, .int .u8 0, .int .u8 0, .int .u8 0, .int .u8 0, .int .u8 0, .int .u8 0, .int .u8 0, .int .u8 0, .int .u8 0, .int .u8 0, .int .u8 0]
  let h5 := put h4 5 (Lib.pow10Tab.map fun z => Value.int .u64 z).toArray
  let h6 := put h5 6 #[.iface 208 (.pointer (some ⟨N + 2, 0, none⟩))]
  let h7 := put h6 7 #[.iface 208 (.pointer (some ⟨N + 3, 0, none⟩))]
  let h8 := put h7 8 #[.int .u8 0, .int .u8 1, .int .u8 28, .int .u8 2, .int .u8 29, .int .u8 14, .int .u8 24, .int .u8 3, .int .u8 30, .int .u8 22, .int .u8 20, .int .u8 15, .int .u8 25, .int .u8 17, .int .u8 4, .int .u8 8, .int .u8 31, .int .u8 27, .int .u8 13, .int .u8 23, .int .u8 21, .int .u8 19, .int .u8 16, .int .u8 7, .int .u8 26, .int .u8 12, .int .u8 18, .int .u8 6, .int .u8 11, .int .u8 5, .int .u8 10, .int .u8 9]
  let h9 := put h8 9 #[.int .u8 0, .int .u8 1, .int .u8 56, .int .u8 2, .int .u8 57, .int .u8 49, .int .u8 28, .int .u8 3, .int .u8 61, .int .u8 58, .int .u8 42, .int .u8 50, .int .u8 38, .int .u8 29, .int .u8 17, .int .u8 4, .int .u8 62, .int .u8 47, .int .u8 59, .int .u8 36, .int .u8 45, .int .u8 43, .int .u8 51, .int .u8 22, .int .u8 53, .int .u8 39, .int .u8 33, .int .u8 30, .int .u8 24, .int .u8 18, .int .u8 12, .int .u8 5, .int .u8 63, .int .u8 55, .int .u8 48, .int .u8 27, .int .u8 60, .int .u8 41, .int .u8 37, .int .u8 16, .int .u8 46, .int .u8 35, .int .u8 44, .int .u8 21, .int .u8 52, .int .u8 32, .int .u8 23, .int .u8 11, .int .u8 54, .int .u8 26, .int .u8 40, .int .u8 15, .int .u8 34, .int .u8 20, .int .u8 31, .int .u8 10, .int .u8 25, .int .u8 14, .int .u8 19, .int .u8 9, .int .u8 13, .int .u8 8, .int .u8 7, .int .u8 6]
  { w0 with heap := h9 }
abbrev zeroR : Value := .agg #[.int .i64 0, .int .i64 0, .int .i64 0, .int .i64 0, .slice none 0 0, .slice none 0 0, .slice none 0 0, .slice none 0 0, .int .i64 0]
theorem opened_rule {H : Type} {enc : TypeId × Value → H} {W : World} {v : Value} {d : DataW H} {p : List MemPlace} (h : DataW.Trod enc Tryz.prog W 0 (fun _ => true) true 26 v d p) :
    ∃ (arr : Array Value) (x : RuleD), v = .agg arr.toList.toArray ∧ rRule W arr.toList x := by
  obtain ⟨fuel, hf⟩ := h
  obtain ⟨d', hd⟩ := rd_of_trod (P := Tryz.prog) 12 26 .nil (shRule .nil) _ [] .nil fuel _ (by kernel_rfl) hf ⟨rfl, rfl⟩
  obtain ⟨x, cs1, cs2, d2, e, hx, hn⟩ := rd_rule hd
  obtain ⟨rfl, _⟩ := hn
  rw [List.append_nil, List.append_nil] at e
  cases v with
  | agg arr => exact ⟨arr, x, by simp, by rw [show arr.toList = cs1 from e]; exact hx⟩
  | _ => obtain ⟨_, _, _, _, e2, _⟩ := hx; rw [e2] at e; simp [Value.cells] at e
end Go.Proofs.YtcleicjgeflbnaaGreatDoor
