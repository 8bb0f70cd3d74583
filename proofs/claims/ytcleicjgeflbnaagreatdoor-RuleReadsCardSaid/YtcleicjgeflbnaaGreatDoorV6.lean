/- rule.parts: the map of the parts' readers; what is looked up in it. No condition. -/
import Derived.Test.YtcleicjgeflbnaaGreatDoorV5
import Derived.MapFrom
namespace Go.Proofs.YtcleicjgeflbnaaGreatDoor
open Go.RowKit Go.ChangeShapes Go.WideShapes Go.Deep
set_option linter.all false

/-- The readers by their names; B is the box that holds where the rule lies. -/
def ents (B : Nat) : List MapEntry := [⟨.string ⟨#[70, 82, 69, 81]⟩, .func (.func 37) #[] #[.pointer (some ⟨B, 0, none⟩)], 0⟩, ⟨.string ⟨#[73, 78, 84, 69, 82, 86, 65, 76]⟩, .func (.func 39) #[] #[.pointer (some ⟨B, 0, none⟩)], 1⟩, ⟨.string ⟨#[67, 79, 85, 78, 84]⟩, .func (.func 41) #[] #[.pointer (some ⟨B, 0, none⟩)], 2⟩, ⟨.string ⟨#[85, 78, 84, 73, 76]⟩, .func (.func 42) #[] #[.pointer (some ⟨B, 0, none⟩)], 3⟩, ⟨.string ⟨#[66, 89, 77, 79, 78, 84, 72]⟩, .func (.func 44) #[] #[.pointer (some ⟨B, 0, none⟩)], 4⟩, ⟨.string ⟨#[66, 89, 77, 79, 78, 84, 72, 68, 65, 89]⟩, .func (.func 46) #[] #[.pointer (some ⟨B, 0, none⟩)], 5⟩, ⟨.string ⟨#[66, 89, 68, 65, 89]⟩, .func (.func 47) #[] #[.pointer (some ⟨B, 0, none⟩)], 6⟩, ⟨.string ⟨#[66, 89, 83, 69, 84, 80, 79, 83]⟩, .func (.func 49) #[] #[.pointer (some ⟨B, 0, none⟩)], 7⟩, ⟨.string ⟨#[87, 75, 83, 84]⟩, .func (.func 50) #[] #[.pointer (some ⟨B, 0, none⟩)], 8⟩]
theorem put_last (W0 : World) (o o' : Obj) : ({ W0.alloc o with heap := (W0.alloc o).heap.setIfInBounds W0.heap.size o' } : World) = W0.alloc o' := by
  have h : (W0.heap.push o).setIfInBounds W0.heap.size o' = W0.heap.push o' := by
    apply Array.ext'
    simp
  exact congrArg (fun h => ({ W0 with heap := h } : World)) h
theorem run_put (W : World) (b : Nat) (es : List MapEntry) (clock : Nat) (s : ByteArray) (v : Value) (W0 : World) (hW : W = W0.alloc (.map es.toArray clock)) (hb : b = W0.heap.size)
    (h1 : Instr.findNow .string (.string s) es 0 = some none) : (Instr.mapUpdate 37 (.map (some b)) (.string s) v).run Tryz.prog W = .ok () (W0.alloc (.map ((es ++ [⟨.string s, v, clock⟩] : List MapEntry).toArray) (clock + 1))) := by
  subst hW hb
  have hb : (W0.alloc (.map es.toArray clock)).heap[W0.heap.size]? = some (.map es.toArray clock) := World.alloc_heap_new _ _
  have hk : MapKept.IsKey .string (.string s) := trivial
  have hm : Tryz.prog.underlying 37 = some (.map 9 45) := by kernel_rfl
  simp [Instr.mapUpdate, run_underlying hm, MapKept.run_getObj_map hb, MapKept.run_checkKey Tryz.underlying9 hk, MapKept.run_findKey Tryz.underlying9 h1, MapKept.run_setObj_map _ hb, Result.andThen]
  exact put_last W0 _ _
theorem run_look (W : World) (b : Nat) (es : List MapEntry) (clock : Nat) (s : ByteArray) (r : Option (Nat × Value)) (hb : W.heap[b]? = some (.map es.toArray clock))
    (h1 : Instr.findNow .string (.string s) es 0 = some r) : (Instr.lookup 37 (.map (some b)) (.string s) true).run Tryz.prog W = .ok (.tuple #[(match r with | some (_, v) => v | none => .nilFunc), .bool r.isSome]) W := by
  have hk : MapKept.IsKey .string (.string s) := trivial
  have hm : Tryz.prog.underlying 37 = some (.map 9 45) := by kernel_rfl
  have hz : (zeroValue 45).run Tryz.prog W = .ok .nilFunc W := Tryz.zeroValue45 W
  cases r with
  | none => simp [Instr.lookup, run_underlying hm, MapKept.run_getObj_map hb, MapKept.run_checkKey Tryz.underlying9 hk, MapKept.run_findKey Tryz.underlying9 h1, Result.andThen, hz]
  | some p => simp [Instr.lookup, run_underlying hm, MapKept.run_getObj_map hb, MapKept.run_checkKey Tryz.underlying9 hk, MapKept.run_findKey Tryz.underlying9 h1, Result.andThen]

set_option maxRecDepth 100000 in
set_option maxHeartbeats 4000000 in
theorem parts_any (a : Addr) (w : World) : Calls Tryz.prog 16 #[.pointer (some a)] w fun e w' => e = .returned (.map (some (w.heap.size + 1))) ∧ w' = (w.alloc (.cells #[.pointer (some a)] 39)).alloc (.map (ents w.heap.size).toArray 9) := by
  obtain ⟨T, hT⟩ : ∃ T : Nat → Array MapEntry, T = fun i => ((ents w.heap.size).take i).toArray := ⟨_, rfl⟩
  have hmk : ∀ W : World, (Instr.makeMap 37 none).run Tryz.prog W = .ok (.map (some W.heap.size)) (W.alloc (.map (T 0) 0)) := fun W => by rw [hT]; rfl
  have h0 : (Instr.mapUpdate 37 (.map (some (w.heap.size + 1))) (.string ⟨#[70, 82, 69, 81]⟩) (.func (.func 37) #[] #[.pointer (some ⟨w.heap.size, 0, none⟩)])).run Tryz.prog ((w.alloc (.cells #[.pointer (some a)] 39)).alloc (.map (T 0) 0)) = .ok () ((w.alloc (.cells #[.pointer (some a)] 39)).alloc (.map (T 1) 1)) :=
    by rw [hT]; exact run_put _ _ ((ents w.heap.size).take 0) 0 _ _ (w.alloc (.cells #[.pointer (some a)] 39)) rfl (World.size_alloc _ _).symm (by rfl)
  have h1 : (Instr.mapUpdate 37 (.map (some (w.heap.size + 1))) (.string ⟨#[73, 78, 84, 69, 82, 86, 65, 76]⟩) (.func (.func 39) #[] #[.pointer (some ⟨w.heap.size, 0, none⟩)])).run Tryz.prog ((w.alloc (.cells #[.pointer (some a)] 39)).alloc (.map (T 1) 1)) = .ok () ((w.alloc (.cells #[.pointer (some a)] 39)).alloc (.map (T 2) 2)) :=
    by rw [hT]; exact run_put _ _ ((ents w.heap.size).take 1) 1 _ _ (w.alloc (.cells #[.pointer (some a)] 39)) rfl (World.size_alloc _ _).symm (by rfl)
  have h2 : (Instr.mapUpdate 37 (.map (some (w.heap.size + 1))) (.string ⟨#[67, 79, 85, 78, 84]⟩) (.func (.func 41) #[] #[.pointer (some ⟨w.heap.size, 0, none⟩)])).run Tryz.prog ((w.alloc (.cells #[.pointer (some a)] 39)).alloc (.map (T 2) 2)) = .ok () ((w.alloc (.cells #[.pointer (some a)] 39)).alloc (.map (T 3) 3)) :=
    by rw [hT]; exact run_put _ _ ((ents w.heap.size).take 2) 2 _ _ (w.alloc (.cells #[.pointer (some a)] 39)) rfl (World.size_alloc _ _).symm (by rfl)
  have h3 : (Instr.mapUpdate 37 (.map (some (w.heap.size + 1))) (.string ⟨#[85, 78, 84, 73, 76]⟩) (.func (.func 42) #[] #[.pointer (some ⟨w.heap.size, 0, none⟩)])).run Tryz.prog ((w.alloc (.cells #[.pointer (some a)] 39)).alloc (.map (T 3) 3)) = .ok () ((w.alloc (.cells #[.pointer (some a)] 39)).alloc (.map (T 4) 4)) :=
    by rw [hT]; exact run_put _ _ ((ents w.heap.size).take 3) 3 _ _ (w.alloc (.cells #[.pointer (some a)] 39)) rfl (World.size_alloc _ _).symm (by rfl)
  have h4 : (Instr.mapUpdate 37 (.map (some (w.heap.size + 1))) (.string ⟨#[66, 89, 77, 79, 78, 84, 72]⟩) (.func (.func 44) #[] #[.pointer (some ⟨w.heap.size, 0, none⟩)])).run Tryz.prog ((w.alloc (.cells #[.pointer (some a)] 39)).alloc (.map (T 4) 4)) = .ok () ((w.alloc (.cells #[.pointer (some a)] 39)).alloc (.map (T 5) 5)) :=
    by rw [hT]; exact run_put _ _ ((ents w.heap.size).take 4) 4 _ _ (w.alloc (.cells #[.pointer (some a)] 39)) rfl (World.size_alloc _ _).symm (by rfl)
  have h5 : (Instr.mapUpdate 37 (.map (some (w.heap.size + 1))) (.string ⟨#[66, 89, 77, 79, 78, 84, 72, 68, 65, 89]⟩) (.func (.func 46) #[] #[.pointer (some ⟨w.heap.size, 0, none⟩)])).run Tryz.prog ((w.alloc (.cells #[.pointer (some a)] 39)).alloc (.map (T 5) 5)) = .ok () ((w.alloc (.cells #[.pointer (some a)] 39)).alloc (.map (T 6) 6)) :=
    by rw [hT]; exact run_put _ _ ((ents w.heap.size).take 5) 5 _ _ (w.alloc (.cells #[.pointer (some a)] 39)) rfl (World.size_alloc _ _).symm (by rfl)
  have h6 : (Instr.mapUpdate 37 (.map (some (w.heap.size + 1))) (.string ⟨#[66, 89, 68, 65, 89]⟩) (.func (.func 47) #[] #[.pointer (some ⟨w.heap.size, 0, none⟩)])).run Tryz.prog ((w.alloc (.cells #[.pointer (some a)] 39)).alloc (.map (T 6) 6)) = .ok () ((w.alloc (.cells #[.pointer (some a)] 39)).alloc (.map (T 7) 7)) :=
    by rw [hT]; exact run_put _ _ ((ents w.heap.size).take 6) 6 _ _ (w.alloc (.cells #[.pointer (some a)] 39)) rfl (World.size_alloc _ _).symm (by rfl)
  have h7 : (Instr.mapUpdate 37 (.map (some (w.heap.size + 1))) (.string ⟨#[66, 89, 83, 69, 84, 80, 79, 83]⟩) (.func (.func 49) #[] #[.pointer (some ⟨w.heap.size, 0, none⟩)])).run Tryz.prog ((w.alloc (.cells #[.pointer (some a)] 39)).alloc (.map (T 7) 7)) = .ok () ((w.alloc (.cells #[.pointer (some a)] 39)).alloc (.map (T 8) 8)) :=
    by rw [hT]; exact run_put _ _ ((ents w.heap.size).take 7) 7 _ _ (w.alloc (.cells #[.pointer (some a)] 39)) rfl (World.size_alloc _ _).symm (by rfl)
  have h8 : (Instr.mapUpdate 37 (.map (some (w.heap.size + 1))) (.string ⟨#[87, 75, 83, 84]⟩) (.func (.func 50) #[] #[.pointer (some ⟨w.heap.size, 0, none⟩)])).run Tryz.prog ((w.alloc (.cells #[.pointer (some a)] 39)).alloc (.map (T 8) 8)) = .ok () ((w.alloc (.cells #[.pointer (some a)] 39)).alloc (.map (T 9) 9)) :=
    by rw [hT]; exact run_put _ _ ((ents w.heap.size).take 8) 8 _ _ (w.alloc (.cells #[.pointer (some a)] 39)) rfl (World.size_alloc _ _).symm (by rfl)
  have HT := Lib.hid hT
  clear hT
  go_enter Tryz.func16, Tryz.ntmps16
  go_wp2_with fail
  go_ret
  refine ⟨rfl, ?_⟩
  rw [HT.out]
  rfl
end Go.Proofs.YtcleicjgeflbnaaGreatDoor
