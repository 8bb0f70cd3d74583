/- SplitSeq at a comma: what it hands back, and the three boxes that it lays. No condition. -/
import Derived.Test.YtkbnjigoejalgaaDoorW3
namespace Go.Proofs.YtkbnjigoejalgaaDoor
open Go.RowKit Go.ChangeShapes Go.WideShapes Go.Deep

/-- The world behind SplitSeq. -/
def splitW (s : ByteArray) (W : World) : World := ((W.alloc (.cells #[.string s] 9)).alloc (.cells #[.string ⟨#[44]⟩] 9)).alloc (.cells #[.int .i64 0] 3)

theorem splitSeq_any (s : ByteArray) (W : World) :
    Calls Tryd.prog 20 #[.string s, .string ⟨#[44]⟩, .int .i64 0] W fun e w' => e = .returned (.func (.func 27) #[] #[.pointer (some ⟨W.heap.size + 1, 0, none⟩), .pointer (some ⟨W.heap.size, 0, none⟩), .pointer (some ⟨W.heap.size + 2, 0, none⟩)]) ∧ w' = splitW s W := by
  go_enter Tryd.func20, Tryd.ntmps20
  go_wp2_with fail
  go_ret
  exact ⟨rfl, rfl⟩
theorem SplitSeq_any (s : ByteArray) (W : World) :
    Calls Tryd.prog 11 #[.string s, .string ⟨#[44]⟩] W fun e w' => e = .returned (.func (.func 27) #[] #[.pointer (some ⟨W.heap.size + 1, 0, none⟩), .pointer (some ⟨W.heap.size, 0, none⟩), .pointer (some ⟨W.heap.size + 2, 0, none⟩)]) ∧ w' = splitW s W := by
  have C := Lib.hid (splitSeq_any s W)
  go_enter Tryd.func11, Tryd.ntmps11
  go_wp2_with fail
  (with_reducible refine C.out.mono ?_)
  rintro e w' ⟨rfl, rfl⟩
  go_wp2_with fail
  go_ret
  exact ⟨rfl, rfl⟩

/-- The set that is read, over the first days. -/
def rdS (ps : List (List UInt8)) : Nat → Nat
  | 0 => 0
  | k + 1 => if nms.getD k [] ∈ ps then rdS ps k ||| 2 ^ k else rdS ps k
theorem or_bit (k n : Nat) (hk : k < 7) (hn : n < 2 ^ k) : n ||| 2 ^ k < 2 ^ (k + 1) := by
  apply Nat.or_lt_two_pow
  · exact Nat.lt_trans hn (Nat.pow_lt_pow_right (by decide) (by omega))
  · exact Nat.pow_lt_pow_right (by decide) (by omega)
theorem rdS_lt (ps : List (List UInt8)) : ∀ k, k ≤ 7 → rdS ps k < 2 ^ k
  | 0, _ => by simp [rdS]
  | k + 1, h => by
    have ih := rdS_lt ps k (by omega)
    rw [rdS]
    split
    · exact or_bit k _ (by omega) ih
    · exact Nat.lt_trans ih (Nat.pow_lt_pow_right (by decide) (by omega))
theorem or0 : ∀ n : Nat, n < 128 → bits BinOp.or IntKind.i64 (n : Int) 1 = ((n ||| 2 ^ 0 : Nat) : Int) := by decide +kernel
theorem or1 : ∀ n : Nat, n < 128 → bits BinOp.or IntKind.i64 (n : Int) 2 = ((n ||| 2 ^ 1 : Nat) : Int) := by decide +kernel
theorem or2 : ∀ n : Nat, n < 128 → bits BinOp.or IntKind.i64 (n : Int) 4 = ((n ||| 2 ^ 2 : Nat) : Int) := by decide +kernel
theorem or3 : ∀ n : Nat, n < 128 → bits BinOp.or IntKind.i64 (n : Int) 8 = ((n ||| 2 ^ 3 : Nat) : Int) := by decide +kernel
theorem or4 : ∀ n : Nat, n < 128 → bits BinOp.or IntKind.i64 (n : Int) 16 = ((n ||| 2 ^ 4 : Nat) : Int) := by decide +kernel
theorem or5 : ∀ n : Nat, n < 128 → bits BinOp.or IntKind.i64 (n : Int) 32 = ((n ||| 2 ^ 5 : Nat) : Int) := by decide +kernel
theorem or6 : ∀ n : Nat, n < 128 → bits BinOp.or IntKind.i64 (n : Int) 64 = ((n ||| 2 ^ 6 : Nat) : Int) := by decide +kernel

/-- Marks on an activation that came from ranges over functions are taken in, one by one. -/
abbrev markOf (D : Nat) : Deferred := { target := .collected D, args := #[] }
theorem leaves_marks {F : Fence} {n : Nat} {P : Program} {fn : Func} {tmps : Array Value} {R : Ending → World → Prop} {u : FrameMode} (hu : u ≠ .run) : ∀ (Ds : List Nat) (W : World), Ds.Nodup → (∀ D ∈ Ds, W.heap[D]? = some (.deferred (some []))) →
    (∀ W', (∀ k, k ∉ Ds → W'.heap[k]? = W.heap[k]?) → W'.os = W.os → W'.tape = W.tape → W'.output = W.output → W.heap.size ≤ W'.heap.size → LeavesIn F n P fn tmps R [] u W') → LeavesInM F n P fn tmps R (Ds.map markOf) u W
  | [], W, _, _, h => h W (fun _ _ => rfl) rfl rfl rfl (Nat.le_refl _)
  | D :: Ds, W, hn, hK, h => by
    have hn' := List.nodup_cons.1 hn
    refine ⟨hu, .inl ⟨D, _, rfl, run_takeDeferred (hK D (List.mem_cons_self ..)), ?_⟩⟩
    refine leaves_marks hu Ds _ hn'.2 (fun E hE => ?_) (fun W' h1 h2 h3 h4 h5 => h W' (fun k hk => ?_) h2 h3 h4 (by simpa using h5))
    · exact (World.putObj_heap_other (fun e => hn'.1 (by rw [← e]; exact hE))).trans (hK E (List.mem_cons_of_mem _ hE))
    · rw [List.mem_cons, not_or] at hk
      exact (h1 k hk.2).trans (World.putObj_heap_other hk.1)
end Go.Proofs.YtkbnjigoejalgaaDoor
