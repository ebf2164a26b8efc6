/- The walks of the new proxy, the new script and their readings: what each call hands back and what it lays into memory. -/
import Derived.Test.YtkfogknohmkbpaaGreatDoorProg
import Derived.Test.YtkfogknohmkbpaaGreatDoorWords
import Derived.WalkKit
import Derived.WalkSpells
import Derived.WalkLawsBesides
import Derived.Deep.DeepFit
import Derived.Deep.RegionHeld3
import Derived.Deep.QuietTactic
import Derived.BigQuiet
import Derived.StillTailTactics
import Derived.Deep.RegionWith
import Derived.LoopN
namespace Go.Proofs.YtkfogknohmkbpaaGreatDoor
open Go.RowKit

set_option maxRecDepth 100000
set_option maxHeartbeats 400000

/-- frame.New. -/
theorem frame_new (b1 b2 b3 b4 b5 b6 : Bool) (w : World) :
    Calls Tryz.prog 30 #[.agg #[.bool b1, .bool b2, .bool b3, .bool b4, .bool b5, .bool b6]] w fun e w' =>
      e = .returned (.pointer (some ⟨w.heap.size + 1, 0, none⟩)) ∧
      w' = (w.alloc (.cells #[.bool b1, .bool b2, .bool b3, .bool b4, .bool b5, .bool b6] 68)).alloc
        (.cells #[.slice none 0 0, .int .i64 0, .bool b1, .bool b2, .bool b3, .bool b4, .bool b5, .bool b6, .int .u32 0, .int .i32 0, .int .u32 0, .int .u32 0, .int .i64 0] 102) := by
  go_enter Tryz.func30, Tryz.ntmps30
  go_wp2
  go_ret
  exact ⟨rfl, rfl⟩

/-- The cells of a new proxy whose framers lie in two blocks. -/
def px0 (f g : Nat) : Array Value := #[.pointer (some ⟨f, 0, none⟩), .bool false, .bool false, .bool false, .bool false, .bool false, .bool false, .int .u32 0, .int .i64 0, .int .u32 0, .slice none 0 0, .bool false, .int .i64 0, .pointer (some ⟨g, 0, none⟩), .bool false, .bool false, .bool false, .bool false, .bool false, .bool false, .int .u32 0, .int .i64 0, .int .u32 0, .slice none 0 0, .bool false, .int .i64 0, .int .u32 0, .int .i32 0, .int .u32 0, .int .u32 0, .int .i64 0, .int .i64 0, .int .i64 0, .slice none 0 0, .int .i64 0]
/-- The cells of a new framer, and of zero options. -/
def fr0 : Array Value := #[.slice none 0 0, .int .i64 0, .bool false, .bool false, .bool false, .bool false, .bool false, .bool false, .int .u32 0, .int .i32 0, .int .u32 0, .int .u32 0, .int .i64 0]
def op0 : Array Value := #[.bool false, .bool false, .bool false, .bool false, .bool false, .bool false]
/-- The world with a new proxy. -/
def withProxy (w : World) : World :=
  ((((w.alloc (.cells (px0 (w.heap.size + 1 + 1) (w.heap.size + 1 + 1 + 1 + 1)) 93)).alloc (.cells op0 68)).alloc (.cells fr0 102)).alloc (.cells op0 68)).alloc (.cells fr0 102)
theorem withProxy_size (w : World) : (withProxy w).heap.size = w.heap.size + 5 := by simp [withProxy]
theorem withProxy_below (w : World) : Below w.heap.size w (withProxy w) :=
  ((((((Below.refl _ w).alloc (Nat.le_refl _) _).alloc (by simp) _).alloc (by simp; omega) _).alloc (by simp; omega) _).alloc (by simp; omega) _)
theorem withProxy_block (w : World) : (withProxy w).heap[w.heap.size]? = some (.cells (px0 (w.heap.size + 1 + 1) (w.heap.size + 1 + 1 + 1 + 1)) 93 (0, 0)) :=
  ((((Blk.new w _ _).alloc _).alloc _).alloc _).alloc _

theorem proxy_new (w : World) :
    Calls Tryz.prog 23 #[] w fun e w' =>
      e = .returned (.pointer (some ⟨w.heap.size, 0, none⟩)) ∧ w' = (withProxy w).drew.drew := by
  go_enter Tryz.func23, Tryz.ntmps23
  go_wp2
  refine wp_loop_rounds 3 ?_
  rw [rounds_succ]
  go_wp2
  go_region_with (go_at_call 30; refine (frame_new _ _ _ _ _ _ _).mono ?_; rintro e w' ⟨rfl, rfl⟩)
  go_wp2
  rw [rounds_succ]
  go_wp2
  go_region_with (go_at_call 30; refine (frame_new _ _ _ _ _ _ _).mono ?_; rintro e w' ⟨rfl, rfl⟩)
  go_wp2
  rw [rounds_succ]
  go_wp2
  go_ret
  exact ⟨rfl, rfl⟩

/-- The world with a new script. -/
def withScript (w : World) : World := (withProxy w).alloc (.cells #[.pointer (some ⟨w.heap.size, 0, none⟩)] 55)

theorem script_new (w : World) :
    Calls Tryz.prog 15 #[] w fun e w' =>
      e = .returned (.pointer (some ⟨w.heap.size + 5, 0, none⟩)) ∧ w' = (withScript w).drew.drew := by
  go_enter Tryz.func15, Tryz.ntmps15
  go_wp2_with (go_at_call 23; refine (proxy_new _).mono ?_; rintro e w' ⟨rfl, rfl⟩)
  go_ret
  exact ⟨by simp [withProxy_size], rfl⟩

theorem closed_new (b : Nat) (f g : Nat) (w : World) (h : w.heap[b]? = some (.cells (px0 f g) 93 (0, 0))) :
    Calls Tryz.prog 55 #[.pointer (some ⟨b, 0, none⟩)] w fun e w' => e = .returned (.bool false) ∧ w = w' := by
  have hc : ∀ i, w.cell? ⟨b, i, none⟩ = (px0 f g)[i]? := fun i => cell_of_row w b i _ _ _ h
  have h29 : w.cell? ⟨b, 29, none⟩ = some (.int .u32 0) := hc 29
  have hl := run_call_load (P := Tryz.prog) Tryz.func129 (by kernel_rfl) (by kernel_rfl) (by kernel_rfl) .u32 (by kernel_rfl) h29
  clear hc h
  go_enter Tryz.func55, Tryz.ntmps55
  go_wp2
  go_ret
  exact ⟨rfl, rfl⟩

theorem ready_new (b : Nat) (f g : Nat) (w : World) (h : w.heap[b]? = some (.cells (px0 f g) 93 (0, 0))) :
    Calls Tryz.prog 56 #[.pointer (some ⟨b, 0, none⟩)] w fun e w' => e = .returned (.bool false) ∧ w = w' := by
  have h11 : w.cell? ⟨b, 11, none⟩ = some (.bool false) := cell_of_row w b 11 _ _ _ h
  clear h
  go_enter Tryz.func56, Tryz.ntmps56
  go_wp2
  go_ret
  exact ⟨rfl, rfl⟩

theorem options_new0 (b : Nat) (f g : Nat) (w : World) (h : w.heap[b]? = some (.cells (px0 f g) 93 (0, 0))) :
    Calls Tryz.prog 51 #[.pointer (some ⟨b, 0, none⟩), .int .i64 0] w fun e w' => e = .returned (.agg op0) ∧ w' = w.alloc (.cells op0 68) := by
  have hc : ∀ i, (w.alloc (.cells op0 68)).cell? ⟨b, i, none⟩ = (px0 f g)[i]? := fun i => (Blk.alloc h _).cell i
  have h1 := hc 1
  have h2 := hc 2
  have h3 := hc 3
  have h4 := hc 4
  have h5 := hc 5
  have h6 := hc 6
  clear hc h
  simp only [px0, op0, List.getElem?_toArray, List.getElem?_cons_succ, List.getElem?_cons_zero] at h1 h2 h3 h4 h5 h6
  go_enter Tryz.func51, Tryz.ntmps51
  go_wp2
  exact bodyPost_ret (v := .agg op0) (by simp [results, Tryz.results51, go_sem, op0]) rfl ⟨rfl, rfl⟩

theorem options_new1 (b : Nat) (f g : Nat) (w : World) (h : w.heap[b]? = some (.cells (px0 f g) 93 (0, 0))) :
    Calls Tryz.prog 51 #[.pointer (some ⟨b, 0, none⟩), .int .i64 1] w fun e w' => e = .returned (.agg op0) ∧ w' = w.alloc (.cells op0 68) := by
  have hc : ∀ i, (w.alloc (.cells op0 68)).cell? ⟨b, i, none⟩ = (px0 f g)[i]? := fun i => (Blk.alloc h _).cell i
  have h14 := hc 14
  have h15 := hc 15
  have h16 := hc 16
  have h17 := hc 17
  have h18 := hc 18
  have h19 := hc 19
  clear hc h
  simp only [px0, op0, List.getElem?_toArray, List.getElem?_cons_succ, List.getElem?_cons_zero] at h14 h15 h16 h17 h18 h19
  go_enter Tryz.func51, Tryz.ntmps51
  go_wp2
  exact bodyPost_ret (v := .agg op0) (by simp [results, Tryz.results51, go_sem, op0]) rfl ⟨rfl, rfl⟩

theorem option_text0 (w : World) :
    Calls Tryz.prog 57 #[.agg op0] w fun e w' => e = .returned (.string ⟨#[45]⟩) ∧ w' = w.alloc (.cells op0 68) := by
  have he : ∀ w : World, (binOp .eql 68 (.agg #[.bool false, .bool false, .bool false, .bool false, .bool false, .bool false]) (.agg #[.bool false, .bool false, .bool false, .bool false, .bool false, .bool false])).run Tryz.prog w = .ok (.bool true) w := fun _ => by kernel_rfl
  unfold op0
  go_enter Tryz.func57, Tryz.ntmps57
  go_wp2
  go_ret
  exact ⟨rfl, rfl⟩
end Go.Proofs.YtkfogknohmkbpaaGreatDoor
