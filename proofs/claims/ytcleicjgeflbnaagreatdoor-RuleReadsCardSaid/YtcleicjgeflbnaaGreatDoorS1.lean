/- sync.Once, not yet done, its lock free, one goroutine: the function is called, then it is done. Condition: what the function leaves of the Once's own cells. -/
import Derived.Test.YtcleicjgeflbnaaGreatDoorA4
import Derived.Conc.MuLone
import Derived.Conc.RwLib
import Derived.Laws.LoneSync
import Derived.Laws.Pointers
import Derived.RegionTactic
import Derived.RegionCalls
import Derived.ChangeAlike
import Derived.Defers
import Derived.Lib.Hide
namespace Go.Proofs
set_option linter.all false
abbrev Tryz.muLink : Go.Conc.Locks.MuLink := { lock := 125, unlock := 126, ilock := 136, iunlock := 137, lockSlow := 149, unlockSlow := 152, disable := 145, enable := 147, acquire := 148, relMerge := 150, cas32 := 146, add32 := 151, tMutex := 114, tIMutex := 112, tPMutex := 193, tPIMutex := 213, tPI32 := 215, tUP := 150, tNoCopy := 107, tU32 := 101 }
theorem Tryz.muLib : Go.Conc.Locks.MuLib Tryz.prog Tryz.muLink :=
  ⟨Tryz.func125, Tryz.func126, Tryz.func136, Tryz.func137, Tryz.func145, Tryz.func147, Tryz.func148, Tryz.func150, Tryz.func146, Tryz.func151, Tryz.underlying112, Tryz.runUnderlying112, Tryz.sizeOf112, Tryz.isAgg112, Tryz.zeroValue112, Tryz.underlying114, Tryz.runUnderlying114, Tryz.sizeOf114, Tryz.isAgg114, Tryz.zeroValue114, Tryz.underlying193, Tryz.runUnderlying193, Tryz.sizeOf193, Tryz.isAgg193, Tryz.zeroValue193, Tryz.underlying213, Tryz.runUnderlying213, Tryz.sizeOf213, Tryz.isAgg213, Tryz.zeroValue213, Tryz.underlying215, Tryz.runUnderlying215, Tryz.sizeOf215, Tryz.isAgg215, Tryz.zeroValue215, Tryz.underlying150, Tryz.runUnderlying150, Tryz.sizeOf150, Tryz.isAgg150, Tryz.zeroValue150, Tryz.underlying107, Tryz.runUnderlying107, Tryz.sizeOf107, Tryz.isAgg107, Tryz.zeroValue107, Tryz.underlying21, Tryz.runUnderlying21, Tryz.sizeOf21, Tryz.isAgg21, Tryz.zeroValue21, (by kernel_rfl)⟩
namespace YtcleicjgeflbnaaGreatDoor
open Go.RowKit Go.MuLone

theorem load0 (a : Addr) (w : World) (h : w.cell? a = some (.int .u32 0)) :
    Calls Tryz.prog 105 #[.pointer (some a)] w fun e w' => e = .returned (.bool false) ∧ w' = w := by
  have hl := run_call_load (P := Tryz.prog) Tryz.func124 (by kernel_rfl) (by kernel_rfl) (by kernel_rfl) .u32 (by kernel_rfl) h
  go_enter Tryz.func105, Tryz.ntmps105
  go_wp2
  go_ret
  exact ⟨rfl, rfl⟩

theorem store_deferred (a : Addr) (x : Value) (u : FrameMode) (w : World) (hc : w.cell? a = some x) (hz : w.frozen? a = false) :
    CallsD Tryz.prog 127 #[.pointer (some a), .bool true] u w fun e u' w' => u' = u ∧ (e = .returned (.tuple #[]) ∧ w' = w.drew.setCell a (.int .u32 1)) := by
  have hc' : w.drew.cell? a = some x := by go_simp
  have hz' : w.drew.frozen? a = false := by go_simp
  have hst := run_call_store (P := Tryz.prog) Tryz.func138 (by kernel_rfl) (by kernel_rfl) (by kernel_rfl) (by kernel_rfl) (k := .u32) (y := 1) hc' hz'
  go_enter_d Tryz.func127, Tryz.ntmps127
  go_wp2
  go_region_calls
  all_goals (go_end0; exact ⟨rfl, rfl⟩)

set_option maxRecDepth 100000 in
set_option maxHeartbeats 1600000 in
theorem slow_any (b : Nat) (w : World) (G : World → Prop) (h0 : w.cell? ⟨b, 0, none⟩ = some (.int .u32 0)) (h1 : w.cell? ⟨b, 1, none⟩ = some (.int .i32 0)) (f1 : w.frozen? ⟨b, 1, none⟩ = false)
    (H : Calls Tryz.prog 83 #[.pointer (some ⟨b, 0, none⟩)] (w.setCell ⟨b, 1, none⟩ (.int .i32 1)) fun e w2 => e = .returned (.tuple #[]) ∧ G w2)
    (hG : ∀ w2, G w2 → w2.cell? ⟨b, 0, none⟩ = some (.int .u32 0) ∧ w2.cell? ⟨b, 1, none⟩ = some (.int .i32 1) ∧ w2.frozen? ⟨b, 0, none⟩ = false ∧ w2.frozen? ⟨b, 1, none⟩ = false) :
    Calls Tryz.prog 106 #[.pointer (some ⟨b, 0, none⟩), .func (.func 83) #[.pointer (some ⟨b, 0, none⟩)] #[]] w fun e w' => e = .returned (.tuple #[]) ∧
      ∃ w2, G w2 ∧ w' = (w2.drew.setCell ⟨b, 0, none⟩ (.int .u32 1)).setCell ⟨b, 1, none⟩ (.int .i32 0) := by
  have HG := Lib.hid hG
  have H1 := Lib.hid (load0 ⟨b, 0, none⟩ (w.setCell ⟨b, 1, none⟩ (.int .i32 1)) ((World.cell?_setCell_other _ ⟨b, 1, none⟩ ⟨b, 0, none⟩ _ (by simp)).trans h0))
  have H2 := Lib.hid H
  have H0 := Lib.hid (lock_free Tryz.muLib ⟨b, 1, none⟩ w h1 f1)
  clear hG H
  have hnot : ∀ (x : Bool) (w : World), (Op.unary .not (.bool x)).run Tryz.prog w = .ok (.bool (!x)) w := fun _ _ => rfl
  go_enter_defers Tryz.func106, Tryz.ntmps106
  go_wp2_with (first
    | (go_at_call 125; ((with_reducible refine (H0.out).mono ?_); rintro e w' ⟨rfl, rfl⟩))
    | (go_at_call 105; ((with_reducible refine (H1.out).mono ?_); rintro e w' ⟨rfl, rfl⟩))
    | (go_at_call 83; ((with_reducible refine (H2.out).mono ?_); rintro e w2 ⟨rfl, hg⟩; have HGG := Lib.hid hg; clear hg)))
  obtain ⟨g0, g1, z0, z1⟩ := HG.out _ HGG.out
  refine leaves_cons (f := 127) (args := #[.pointer (some ⟨b, 0, none⟩), .bool true]) (by simp) (by simp [go_sem]) ?_
  refine (store_deferred ⟨b, 0, none⟩ (.int .u32 0) .returning _ g0 z0).mono ?_
  rintro e u' w'' ⟨rfl, rfl, rfl⟩
  refine leaves_cons (f := 126) (args := #[.pointer (some ⟨b, 1, none⟩)]) (by simp [settle]) (by simp [go_sem]) ?_
  refine (unlock_deferred Tryz.muLib ⟨b, 1, none⟩ _ _ ?_ ?_).mono ?_
  · rw [World.cell?_setCell_other _ ⟨b, 0, none⟩ ⟨b, 1, none⟩ _ (by simp), World.cell?_drew]; exact g1
  · simp [z1]
  rintro e u' w'' ⟨rfl, rfl, rfl⟩
  have HX := HGG.out
  simp [Leaves, settle, results, Tryz.results106]
  exact ⟨_, HX, rfl⟩
set_option maxRecDepth 100000 in
set_option maxHeartbeats 1600000 in
theorem do_first (b : Nat) (w : World) (G : World → Prop) (h0 : w.cell? ⟨b, 0, none⟩ = some (.int .u32 0)) (h1 : w.cell? ⟨b, 1, none⟩ = some (.int .i32 0)) (f1 : w.frozen? ⟨b, 1, none⟩ = false)
    (H : Calls Tryz.prog 83 #[.pointer (some ⟨b, 0, none⟩)] (w.setCell ⟨b, 1, none⟩ (.int .i32 1)) fun e w2 => e = .returned (.tuple #[]) ∧ G w2)
    (hG : ∀ w2, G w2 → w2.cell? ⟨b, 0, none⟩ = some (.int .u32 0) ∧ w2.cell? ⟨b, 1, none⟩ = some (.int .i32 1) ∧ w2.frozen? ⟨b, 0, none⟩ = false ∧ w2.frozen? ⟨b, 1, none⟩ = false) :
    Calls Tryz.prog 82 #[.pointer (some ⟨b, 0, none⟩), .func (.func 83) #[.pointer (some ⟨b, 0, none⟩)] #[]] w fun e w' => e = .returned (.tuple #[]) ∧
      ∃ w2, G w2 ∧ w' = (w2.drew.setCell ⟨b, 0, none⟩ (.int .u32 1)).setCell ⟨b, 1, none⟩ (.int .i32 0) := by
  have H1 := Lib.hid (load0 ⟨b, 0, none⟩ w h0)
  have H2 := Lib.hid (slow_any b w G h0 h1 f1 H hG)
  clear H hG
  have hnot : ∀ (x : Bool) (w : World), (Op.unary .not (.bool x)).run Tryz.prog w = .ok (.bool (!x)) w := fun _ _ => rfl
  go_enter Tryz.func82, Tryz.ntmps82
  go_wp2_with (first
    | (go_at_call 105; ((with_reducible refine (H1.out).mono ?_); rintro e w' ⟨rfl, rfl⟩))
    | (go_at_call 106; ((with_reducible refine (H2.out).mono ?_); rintro e w2 ⟨rfl, hg⟩; have HGG := Lib.hid hg; clear hg)))
  go_end0
  exact ⟨rfl, HGG.out⟩
end YtcleicjgeflbnaaGreatDoor
end Go.Proofs
