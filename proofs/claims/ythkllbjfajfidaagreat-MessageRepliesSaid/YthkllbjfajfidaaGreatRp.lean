/- Walk of slices.Repeat at one byte, sixteen times. -/
import Derived.Test.YthkllbjfajfidaaGreatOc
import Derived.Laws.CopyRow
import Derived.BigRegion
import Derived.Great.BuildSlice
import Derived.Deep.WholeRow
namespace Go.Proofs.YthkllbjfajfidaaGreat
open Go.RowKit

set_option maxRecDepth 100000
set_option maxHeartbeats 400000

theorem mul64_walk (w : World) : Calls Tryz.prog 45 #[.int .u64 1, .int .u64 16] w fun e w' => e = .returned (.tuple #[.int .u64 0, .int .u64 16]) ∧ w = w' := by
  go_enter Tryz.func45, Tryz.ntmps45
  go_wp2
  go_ret2
  exact ⟨rfl, rfl⟩
theorem mul_walk (w : World) : Calls Tryz.prog 42 #[.int .u64 1, .int .u64 16] w fun e w' => e = .returned (.tuple #[.int .u64 0, .int .u64 16]) ∧ w = w' := by
  go_enter Tryz.func42, Tryz.ntmps42
  go_wp2_with (go_at_call 45; refine (mul64_walk _).mono ?_; rintro e w' ⟨rfl, rfl⟩)
  go_ret2
  exact ⟨rfl, rfl⟩

theorem copy_self (w : World) (cur new : Array Value) (o dLen dCap sCap : Nat) (h1 : o ≤ dLen) (h2 : o + o ≤ cur.size) (h3 : ∀ v ∈ cur.toList.take o, v.oneCell' = true)
    (hnew : (cur.toList.take o ++ cur.toList.take o ++ cur.toList.drop (o + o)).toArray = new) :
    (Builtin.copy_ #[24, 24] 3 #[.slice (some ⟨w.heap.size, o, none⟩) dLen dCap, .slice (some ⟨w.heap.size, 0, none⟩) o sCap]).run Tryz.prog (w.alloc (.cells cur 5)) = .ok (.int .i64 o) (w.alloc (.cells new 5)) := by
  have hl : (cur.toList.take o).length = o := by simp; omega
  have h := run_copy_row (P := Tryz.prog) (w.alloc (.cells cur 5)) 24 24 3 5 w.heap.size o dLen dCap ⟨w.heap.size, 0, none⟩ o sCap cur 5 (cur.toList.take o) Tryz.underlying24 (by kernel_rfl)
    (heap_alloc_new w _) (by rw [hl]; exact (Nat.min_eq_left h1).symm) (fun j v hj => by
      have e : (⟨w.heap.size, 0, none⟩ : Addr).add j = ⟨w.heap.size, j, none⟩ := by simp [Addr.add]; omega
      rw [e, cell_of_row _ _ j cur 5 (0, 0) (heap_alloc_new w _)]
      rw [List.getElem?_take] at hj
      split at hj
      · simpa using hj
      · cases hj) (by rw [hl]; exact h2) h3
  rw [hl, World.setRow_alloc_new, hnew] at h
  exact h
theorem copy_0 (w : World) (g : Nat) (hg : Blk w g 5 #[.int .u8 255]) : (Builtin.copy_ #[24, 24] 3 #[.slice (some ⟨w.heap.size, 0, none⟩) 16 16, .slice (some ⟨g, 0, none⟩) 1 1]).run Tryz.prog (w.alloc (.cells #[.int .u8 0, .int .u8 0, .int .u8 0, .int .u8 0, .int .u8 0, .int .u8 0, .int .u8 0, .int .u8 0, .int .u8 0, .int .u8 0, .int .u8 0, .int .u8 0, .int .u8 0, .int .u8 0, .int .u8 0, .int .u8 0] 5)) = .ok (.int .i64 1) (w.alloc (.cells #[.int .u8 255, .int .u8 0, .int .u8 0, .int .u8 0, .int .u8 0, .int .u8 0, .int .u8 0, .int .u8 0, .int .u8 0, .int .u8 0, .int .u8 0, .int .u8 0, .int .u8 0, .int .u8 0, .int .u8 0, .int .u8 0] 5)) := by
  have h := run_copy_row (P := Tryz.prog) (w.alloc (.cells #[.int .u8 0, .int .u8 0, .int .u8 0, .int .u8 0, .int .u8 0, .int .u8 0, .int .u8 0, .int .u8 0, .int .u8 0, .int .u8 0, .int .u8 0, .int .u8 0, .int .u8 0, .int .u8 0, .int .u8 0, .int .u8 0] 5)) 24 24 3 5 w.heap.size 0 16 16 ⟨g, 0, none⟩ 1 1 #[.int .u8 0, .int .u8 0, .int .u8 0, .int .u8 0, .int .u8 0, .int .u8 0, .int .u8 0, .int .u8 0, .int .u8 0, .int .u8 0, .int .u8 0, .int .u8 0, .int .u8 0, .int .u8 0, .int .u8 0, .int .u8 0] 5 [.int .u8 255] Tryz.underlying24 (by kernel_rfl)
    (heap_alloc_new _ _) rfl (fun j v hj => by
      match j, hj with
      | 0, hj => simp at hj; subst hj; exact (hg.alloc _).cell 0) (by decide) (by simp [Value.oneCell'])
  rw [World.setRow_alloc_new] at h
  exact h
theorem copy_1 (w : World) : (Builtin.copy_ #[24, 24] 3 #[.slice (some ⟨w.heap.size, 1, none⟩) 15 15, .slice (some ⟨w.heap.size, 0, none⟩) 1 16]).run Tryz.prog (w.alloc (.cells #[.int .u8 255, .int .u8 0, .int .u8 0, .int .u8 0, .int .u8 0, .int .u8 0, .int .u8 0, .int .u8 0, .int .u8 0, .int .u8 0, .int .u8 0, .int .u8 0, .int .u8 0, .int .u8 0, .int .u8 0, .int .u8 0] 5)) = .ok (.int .i64 1) (w.alloc (.cells #[.int .u8 255, .int .u8 255, .int .u8 0, .int .u8 0, .int .u8 0, .int .u8 0, .int .u8 0, .int .u8 0, .int .u8 0, .int .u8 0, .int .u8 0, .int .u8 0, .int .u8 0, .int .u8 0, .int .u8 0, .int .u8 0] 5)) :=
  copy_self w #[.int .u8 255, .int .u8 0, .int .u8 0, .int .u8 0, .int .u8 0, .int .u8 0, .int .u8 0, .int .u8 0, .int .u8 0, .int .u8 0, .int .u8 0, .int .u8 0, .int .u8 0, .int .u8 0, .int .u8 0, .int .u8 0] #[.int .u8 255, .int .u8 255, .int .u8 0, .int .u8 0, .int .u8 0, .int .u8 0, .int .u8 0, .int .u8 0, .int .u8 0, .int .u8 0, .int .u8 0, .int .u8 0, .int .u8 0, .int .u8 0, .int .u8 0, .int .u8 0] 1 15 15 16 (by decide) (by decide) (by simp [Value.oneCell']) rfl
theorem copy_2 (w : World) : (Builtin.copy_ #[24, 24] 3 #[.slice (some ⟨w.heap.size, 2, none⟩) 14 14, .slice (some ⟨w.heap.size, 0, none⟩) 2 16]).run Tryz.prog (w.alloc (.cells #[.int .u8 255, .int .u8 255, .int .u8 0, .int .u8 0, .int .u8 0, .int .u8 0, .int .u8 0, .int .u8 0, .int .u8 0, .int .u8 0, .int .u8 0, .int .u8 0, .int .u8 0, .int .u8 0, .int .u8 0, .int .u8 0] 5)) = .ok (.int .i64 2) (w.alloc (.cells #[.int .u8 255, .int .u8 255, .int .u8 255, .int .u8 255, .int .u8 0, .int .u8 0, .int .u8 0, .int .u8 0, .int .u8 0, .int .u8 0, .int .u8 0, .int .u8 0, .int .u8 0, .int .u8 0, .int .u8 0, .int .u8 0] 5)) :=
  copy_self w #[.int .u8 255, .int .u8 255, .int .u8 0, .int .u8 0, .int .u8 0, .int .u8 0, .int .u8 0, .int .u8 0, .int .u8 0, .int .u8 0, .int .u8 0, .int .u8 0, .int .u8 0, .int .u8 0, .int .u8 0, .int .u8 0] #[.int .u8 255, .int .u8 255, .int .u8 255, .int .u8 255, .int .u8 0, .int .u8 0, .int .u8 0, .int .u8 0, .int .u8 0, .int .u8 0, .int .u8 0, .int .u8 0, .int .u8 0, .int .u8 0, .int .u8 0, .int .u8 0] 2 14 14 16 (by decide) (by decide) (by simp [Value.oneCell']) rfl
theorem copy_4 (w : World) : (Builtin.copy_ #[24, 24] 3 #[.slice (some ⟨w.heap.size, 4, none⟩) 12 12, .slice (some ⟨w.heap.size, 0, none⟩) 4 16]).run Tryz.prog (w.alloc (.cells #[.int .u8 255, .int .u8 255, .int .u8 255, .int .u8 255, .int .u8 0, .int .u8 0, .int .u8 0, .int .u8 0, .int .u8 0, .int .u8 0, .int .u8 0, .int .u8 0, .int .u8 0, .int .u8 0, .int .u8 0, .int .u8 0] 5)) = .ok (.int .i64 4) (w.alloc (.cells #[.int .u8 255, .int .u8 255, .int .u8 255, .int .u8 255, .int .u8 255, .int .u8 255, .int .u8 255, .int .u8 255, .int .u8 0, .int .u8 0, .int .u8 0, .int .u8 0, .int .u8 0, .int .u8 0, .int .u8 0, .int .u8 0] 5)) :=
  copy_self w #[.int .u8 255, .int .u8 255, .int .u8 255, .int .u8 255, .int .u8 0, .int .u8 0, .int .u8 0, .int .u8 0, .int .u8 0, .int .u8 0, .int .u8 0, .int .u8 0, .int .u8 0, .int .u8 0, .int .u8 0, .int .u8 0] #[.int .u8 255, .int .u8 255, .int .u8 255, .int .u8 255, .int .u8 255, .int .u8 255, .int .u8 255, .int .u8 255, .int .u8 0, .int .u8 0, .int .u8 0, .int .u8 0, .int .u8 0, .int .u8 0, .int .u8 0, .int .u8 0] 4 12 12 16 (by decide) (by decide) (by simp [Value.oneCell']) rfl
theorem copy_8 (w : World) : (Builtin.copy_ #[24, 24] 3 #[.slice (some ⟨w.heap.size, 8, none⟩) 8 8, .slice (some ⟨w.heap.size, 0, none⟩) 8 16]).run Tryz.prog (w.alloc (.cells #[.int .u8 255, .int .u8 255, .int .u8 255, .int .u8 255, .int .u8 255, .int .u8 255, .int .u8 255, .int .u8 255, .int .u8 0, .int .u8 0, .int .u8 0, .int .u8 0, .int .u8 0, .int .u8 0, .int .u8 0, .int .u8 0] 5)) = .ok (.int .i64 8) (w.alloc (.cells #[.int .u8 255, .int .u8 255, .int .u8 255, .int .u8 255, .int .u8 255, .int .u8 255, .int .u8 255, .int .u8 255, .int .u8 255, .int .u8 255, .int .u8 255, .int .u8 255, .int .u8 255, .int .u8 255, .int .u8 255, .int .u8 255] 5)) :=
  copy_self w #[.int .u8 255, .int .u8 255, .int .u8 255, .int .u8 255, .int .u8 255, .int .u8 255, .int .u8 255, .int .u8 255, .int .u8 0, .int .u8 0, .int .u8 0, .int .u8 0, .int .u8 0, .int .u8 0, .int .u8 0, .int .u8 0] #[.int .u8 255, .int .u8 255, .int .u8 255, .int .u8 255, .int .u8 255, .int .u8 255, .int .u8 255, .int .u8 255, .int .u8 255, .int .u8 255, .int .u8 255, .int .u8 255, .int .u8 255, .int .u8 255, .int .u8 255, .int .u8 255] 8 8 8 16 (by decide) (by decide) (by simp [Value.oneCell']) rfl
theorem repeat_walk (w : World) (g : Nat) (hg : Blk w g 5 #[.int .u8 255]) : Calls Tryz.prog 37 #[.slice (some ⟨g, 0, none⟩) 1 1, .int .i64 16] w fun e w' => ∃ v, e = .returned v ∧ IsB w' v (List.replicate 16 255) ∧ Gr w w' := by
  obtain ⟨i0, hi, hz0, hz1, hz2⟩ := info_parts byte_info
  have hmk := fun W => run_make (P := Tryz.prog) (w := W) 24 5 i0 _ Tryz.underlying24 hi hz0 .i64 .i64 16 16 (by omega) (by omega) (by rw [hz2]; omega) (by omega)
  simp only [hz1] at hmk
  have e2 : Int.toNat 16 = 16 := rfl
  have e3 : madeCells (Value.int .u8 0).cells (16 * 1) = #[.int .u8 0, .int .u8 0, .int .u8 0, .int .u8 0, .int .u8 0, .int .u8 0, .int .u8 0, .int .u8 0, .int .u8 0, .int .u8 0, .int .u8 0, .int .u8 0, .int .u8 0, .int .u8 0, .int .u8 0, .int .u8 0] := by kernel_rfl
  simp only [e2, e3] at hmk
  clear e2 e3 hi hz0 hz1 hz2
  have e1 : w.drew.heap.size = w.heap.size := by simp
  have q1 := copy_1 (w.drew)
  rw [e1] at q1
  have k1 : (Builtin.copy_ #[24, 24] 3 #[.slice (some ⟨w.heap.size, 1, none⟩) 15 15, .slice (some ⟨w.heap.size, 0, none⟩) 1 16]).run Tryz.prog ((w.alloc (.cells #[.int .u8 255, .int .u8 0, .int .u8 0, .int .u8 0, .int .u8 0, .int .u8 0, .int .u8 0, .int .u8 0, .int .u8 0, .int .u8 0, .int .u8 0, .int .u8 0, .int .u8 0, .int .u8 0, .int .u8 0, .int .u8 0] 5)).drew) = .ok (.int .i64 1) ((w.alloc (.cells #[.int .u8 255, .int .u8 255, .int .u8 0, .int .u8 0, .int .u8 0, .int .u8 0, .int .u8 0, .int .u8 0, .int .u8 0, .int .u8 0, .int .u8 0, .int .u8 0, .int .u8 0, .int .u8 0, .int .u8 0, .int .u8 0] 5)).drew) := q1
  clear q1 e1
  have e2 : w.drew.drew.heap.size = w.heap.size := by simp
  have q2 := copy_2 (w.drew.drew)
  rw [e2] at q2
  have k2 : (Builtin.copy_ #[24, 24] 3 #[.slice (some ⟨w.heap.size, 2, none⟩) 14 14, .slice (some ⟨w.heap.size, 0, none⟩) 2 16]).run Tryz.prog ((w.alloc (.cells #[.int .u8 255, .int .u8 255, .int .u8 0, .int .u8 0, .int .u8 0, .int .u8 0, .int .u8 0, .int .u8 0, .int .u8 0, .int .u8 0, .int .u8 0, .int .u8 0, .int .u8 0, .int .u8 0, .int .u8 0, .int .u8 0] 5)).drew.drew) = .ok (.int .i64 2) ((w.alloc (.cells #[.int .u8 255, .int .u8 255, .int .u8 255, .int .u8 255, .int .u8 0, .int .u8 0, .int .u8 0, .int .u8 0, .int .u8 0, .int .u8 0, .int .u8 0, .int .u8 0, .int .u8 0, .int .u8 0, .int .u8 0, .int .u8 0] 5)).drew.drew) := q2
  clear q2 e2
  have e4 : w.drew.drew.drew.heap.size = w.heap.size := by simp
  have q4 := copy_4 (w.drew.drew.drew)
  rw [e4] at q4
  have k4 : (Builtin.copy_ #[24, 24] 3 #[.slice (some ⟨w.heap.size, 4, none⟩) 12 12, .slice (some ⟨w.heap.size, 0, none⟩) 4 16]).run Tryz.prog ((w.alloc (.cells #[.int .u8 255, .int .u8 255, .int .u8 255, .int .u8 255, .int .u8 0, .int .u8 0, .int .u8 0, .int .u8 0, .int .u8 0, .int .u8 0, .int .u8 0, .int .u8 0, .int .u8 0, .int .u8 0, .int .u8 0, .int .u8 0] 5)).drew.drew.drew) = .ok (.int .i64 4) ((w.alloc (.cells #[.int .u8 255, .int .u8 255, .int .u8 255, .int .u8 255, .int .u8 255, .int .u8 255, .int .u8 255, .int .u8 255, .int .u8 0, .int .u8 0, .int .u8 0, .int .u8 0, .int .u8 0, .int .u8 0, .int .u8 0, .int .u8 0] 5)).drew.drew.drew) := q4
  clear q4 e4
  have e8 : w.drew.drew.drew.drew.heap.size = w.heap.size := by simp
  have q8 := copy_8 (w.drew.drew.drew.drew)
  rw [e8] at q8
  have k8 : (Builtin.copy_ #[24, 24] 3 #[.slice (some ⟨w.heap.size, 8, none⟩) 8 8, .slice (some ⟨w.heap.size, 0, none⟩) 8 16]).run Tryz.prog ((w.alloc (.cells #[.int .u8 255, .int .u8 255, .int .u8 255, .int .u8 255, .int .u8 255, .int .u8 255, .int .u8 255, .int .u8 255, .int .u8 0, .int .u8 0, .int .u8 0, .int .u8 0, .int .u8 0, .int .u8 0, .int .u8 0, .int .u8 0] 5)).drew.drew.drew.drew) = .ok (.int .i64 8) ((w.alloc (.cells #[.int .u8 255, .int .u8 255, .int .u8 255, .int .u8 255, .int .u8 255, .int .u8 255, .int .u8 255, .int .u8 255, .int .u8 255, .int .u8 255, .int .u8 255, .int .u8 255, .int .u8 255, .int .u8 255, .int .u8 255, .int .u8 255] 5)).drew.drew.drew.drew) := q8
  clear q8 e8
  have k0 := copy_0 w g hg
  clear hg
  go_enter Tryz.func37, Tryz.ntmps37
  go_wp2_with (go_at_call 42; refine (mul_walk _).mono ?_; rintro e w' ⟨rfl, rfl⟩)
  refine wp_loop_rounds 5 ?_
  rw [rounds_succ]
  go_wp2
  go_region
  go_wp2
  rw [rounds_succ]
  go_wp2
  go_region
  go_wp2
  rw [rounds_succ]
  go_wp2
  go_region
  go_wp2
  rw [rounds_succ]
  go_wp2
  go_region
  go_wp2
  rw [rounds_succ]
  go_wp2
  go_ret
  have hB := Blk.new w 5 #[.int .u8 255, .int .u8 255, .int .u8 255, .int .u8 255, .int .u8 255, .int .u8 255, .int .u8 255, .int .u8 255, .int .u8 255, .int .u8 255, .int .u8 255, .int .u8 255, .int .u8 255, .int .u8 255, .int .u8 255, .int .u8 255]
  exact ⟨_, rfl, IsB.of_block (hB.drew.drew.drew.drew) rfl rfl (Nat.le_refl _) (by unfold maxLen; omega), by unfold Gr; go_grown⟩
end Go.Proofs.YthkllbjfajfidaaGreat
