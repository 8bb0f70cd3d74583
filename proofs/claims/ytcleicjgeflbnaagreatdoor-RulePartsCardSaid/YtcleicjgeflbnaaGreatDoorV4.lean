/- SplitSeq at a sign: what it hands back, and the three boxes that it lays. No condition. -/
import Derived.Test.YtcleicjgeflbnaaGreatDoorV3
namespace Go.Proofs.YtcleicjgeflbnaaGreatDoor
open Go.RowKit Go.ChangeShapes Go.WideShapes Go.Deep
set_option linter.all false

/-- The world behind SplitSeq. -/
def splitW (d : UInt8) (s : ByteArray) (W : World) : World := ((W.alloc (.cells #[.string s] 9)).alloc (.cells #[.string ⟨#[d]⟩] 9)).alloc (.cells #[.int .i64 0] 3)

theorem splitSeq_any (d : UInt8) (s : ByteArray) (W : World) :
    Calls Tryz.prog 51 #[.string s, .string ⟨#[d]⟩, .int .i64 0] W fun e w' => e = .returned (.func (.func 71) #[] #[.pointer (some ⟨W.heap.size + 1, 0, none⟩), .pointer (some ⟨W.heap.size, 0, none⟩), .pointer (some ⟨W.heap.size + 2, 0, none⟩)]) ∧ w' = splitW d s W := by
  go_enter Tryz.func51, Tryz.ntmps51
  go_wp2_with fail
  go_ret
  exact ⟨rfl, rfl⟩
theorem SplitSeq_any (d : UInt8) (s : ByteArray) (W : World) :
    Calls Tryz.prog 17 #[.string s, .string ⟨#[d]⟩] W fun e w' => e = .returned (.func (.func 71) #[] #[.pointer (some ⟨W.heap.size + 1, 0, none⟩), .pointer (some ⟨W.heap.size, 0, none⟩), .pointer (some ⟨W.heap.size + 2, 0, none⟩)]) ∧ w' = splitW d s W := by
  have C := Lib.hid (splitSeq_any d s W)
  go_enter Tryz.func17, Tryz.ntmps17
  go_wp2_with fail
  (with_reducible refine C.out.mono ?_)
  rintro e w' ⟨rfl, rfl⟩
  go_wp2_with fail
  go_ret
  exact ⟨rfl, rfl⟩

/-- Marks on an activation that came from ranges over functions are taken in, one by one. -/
abbrev markOf (D : Nat) : Deferred := { target := .collected D, args := #[] }
theorem leaves_marks {F : Fence} {n : Nat} {P : Program} {fn : Func} {tmps : Array Value} {R : Ending → World → Prop} {u : FrameMode} (hu : u ≠ .run) : ∀ (Ds : List Nat) (W : World), Ds.Nodup → (∀ D ∈ Ds, W.heap[D]? = some (.deferred (some []))) →
    (∀ W', (∀ k, k ∉ Ds → W'.heap[k]? = W.heap[k]?) → W'.os = W.os → W'.tape = W.tape → W'.output = W.output → W.heap.size ≤ W'.heap.size → LeavesIn F n P fn tmps R [] u W') → LeavesInM F n P fn tmps R (Ds.map markOf) u W
  | [], W, _, _, h => h W (fun _ _ => rfl) rfl rfl rfl (Nat.le_refl _)
  | D :: Ds, W, hn, hK, h => by
    have hn' := List.nodup_cons.1 hn
    refine ⟨hu, .inl ⟨D, _, rfl, run_takeDeferred (hK D (List.mem_cons_self ..)), ?_⟩⟩
    refine leaves_marks hu Ds _ hn'.2 (fun E hE => ?_) (fun W' h1 h2 h3 h4 h5 => h W' (fun k hk => ?_) h2 h3 h4 (by simpa using h5))
    · exact (World.putObj_heap_other (fun e => hn'.1 (by rw [← e]; exact hE))).trans (hK E (List.mem_cons_of_mem _ hE))
    · rw [List.mem_cons, not_or] at hk
      exact (h1 k hk.2).trans (World.putObj_heap_other hk.1)
end Go.Proofs.YtcleicjgeflbnaaGreatDoor
