/- The walks of a script's commands: the table of commands, the command state at a new script, and a script of one line. -/
import Derived.Test.YtkfogknohmkbpaaGreatDoorWa
import Derived.Test.YtkfogknohmkbpaaGreatDoorMapLaws
import Derived.Handy
namespace Go.Proofs.YtkfogknohmkbpaaGreatDoor
open Go.RowKit

set_option maxRecDepth 100000
set_option maxHeartbeats 400000

theorem options_any (b f g : Nat) (i : Int) (hi : i = 0 ∨ i = 1) (w : World) (h : w.heap[b]? = some (.cells (px0 f g) 93 (0, 0))) :
    Calls Tryz.prog 51 #[.pointer (some ⟨b, 0, none⟩), .int .i64 i] w fun e w' => e = .returned (.agg op0) ∧ w' = w.alloc (.cells op0 68) := by
  rcases hi with rfl | rfl
  · exact options_new0 b f g w h
  · exact options_new1 b f g w h

theorem lt_of_cell {w : World} {b i : Nat} {v : Value} (h : w.cell? ⟨b, i, none⟩ = some v) : b < w.heap.size := by
  rcases Nat.lt_or_ge b w.heap.size with hl | hl
  · exact hl
  · simp [World.cell?, Array.getElem?_eq_none hl] at h

theorem st_of {w W : World} {b f g sb : Nat} {v : Value} (hs : w.cell? ⟨sb, 0, none⟩ = some v) (h : w.heap[b]? = some (.cells (px0 f g) 93 (0, 0))) (hb : Below w.heap.size w W) :
    W.cell? ⟨sb, 0, none⟩ = some v ∧ W.heap[b]? = some (.cells (px0 f g) 93 (0, 0)) :=
  ⟨(hb.cell (p := ⟨sb, 0, none⟩) (lt_of_cell hs)).trans hs, (hb.block b (Blk.lt h)).trans h⟩

theorem state_new (sb b f g : Nat) (words : Value) (w : World) (hs : w.cell? ⟨sb, 0, none⟩ = some (.pointer (some ⟨b, 0, none⟩))) (h : w.heap[b]? = some (.cells (px0 f g) 93 (0, 0))) :
    Calls Tryz.prog 37 #[.pointer (some ⟨sb, 0, none⟩), words] w fun e w' =>
      e = .returned (.tuple #[.string ⟨#[119, 97, 105, 116, 105, 110, 103, 44, 32, 45, 44, 32, 45, 10]⟩, .int .i64 0]) ∧ Below w.heap.size w w' := by
  go_enter Tryz.func37, Tryz.ntmps37
  go_wp2_with (first
    | (go_at_call 55; refine (closed_new b f g _ h).mono ?_; rintro e w' ⟨rfl, rfl⟩)
    | (go_at_call 56; refine (ready_new b f g _ h).mono ?_; rintro e w' ⟨rfl, rfl⟩))
  go_region_held3 (fun W => W.cell? ⟨sb, 0, none⟩ = some (.pointer (some ⟨b, 0, none⟩)) ∧ W.heap[b]? = some (.cells (px0 f g) 93 (0, 0))) ((refine st_of hs h ?_; go_grown))
    (first
      | (go_at_call 51; refine (options_any b f g _ ?_ _ ?_).mono ?_; (first | exact .inl rfl | exact .inr rfl); (exact (And.right (by assumption))); rintro e w' ⟨rfl, rfl⟩)
      | (go_at_call 57; refine (option_text0 _).mono ?_; rintro e w' ⟨rfl, rfl⟩))
  go_wp2
  go_ret2
  exact ⟨by kernel_rfl, by go_grown⟩

/-- The table of commands. -/
def cmds : Array MapEntry := #[{ key := .string ⟨#[97]⟩, val := .agg #[.int .i64 2, .func (.func 35) #[] #[]], born := 0 }, { key := .string ⟨#[98]⟩, val := .agg #[.int .i64 2, .func (.func 35) #[] #[]], born := 1 }, { key := .string ⟨#[114, 101, 97, 100]⟩, val := .agg #[.int .i64 3, .func (.func 36) #[] #[]], born := 2 }, { key := .string ⟨#[115, 116, 97, 116, 101]⟩, val := .agg #[.int .i64 1, .func (.func 37) #[] #[]], born := 3 }, { key := .string ⟨#[99, 111, 117, 110, 116]⟩, val := .agg #[.int .i64 1, .func (.func 38) #[] #[]], born := 4 }, { key := .string ⟨#[102, 97, 117, 108, 116]⟩, val := .agg #[.int .i64 1, .func (.func 39) #[] #[]], born := 5 }, { key := .string ⟨#[110, 101, 119]⟩, val := .agg #[.int .i64 1, .func (.func 40) #[] #[]], born := 6 }]
theorem commands_walk (w : World) :
    Calls Tryz.prog 26 #[] w fun e w' => e = .returned (.map (some w.heap.size)) ∧ w' = w.alloc (.map cmds 7) := by
  have hmm := @run_makeMap Tryz.prog
  have hi0 : ∀ w : World, (Instr.mapUpdate 61 (.map (some w.heap.size)) (.string ⟨#[97]⟩) (.agg #[.int .i64 2, .func (.func 35) #[] #[]])).run Tryz.prog (w.alloc (.map #[] 0)) = .ok () (w.alloc (.map #[{ key := .string ⟨#[97]⟩, val := .agg #[.int .i64 2, .func (.func 35) #[] #[]], born := 0 }] 1)) := fun w => run_insert_new Tryz.underlying61 Tryz.underlying9 _ (check_string Tryz.underlying9 _ _) w _ _ _ (by rfl)
  have hi1 : ∀ w : World, (Instr.mapUpdate 61 (.map (some w.heap.size)) (.string ⟨#[98]⟩) (.agg #[.int .i64 2, .func (.func 35) #[] #[]])).run Tryz.prog (w.alloc (.map #[{ key := .string ⟨#[97]⟩, val := .agg #[.int .i64 2, .func (.func 35) #[] #[]], born := 0 }] 1)) = .ok () (w.alloc (.map #[{ key := .string ⟨#[97]⟩, val := .agg #[.int .i64 2, .func (.func 35) #[] #[]], born := 0 }, { key := .string ⟨#[98]⟩, val := .agg #[.int .i64 2, .func (.func 35) #[] #[]], born := 1 }] 2)) := fun w => run_insert_new Tryz.underlying61 Tryz.underlying9 _ (check_string Tryz.underlying9 _ _) w _ _ _ (by rfl)
  have hi2 : ∀ w : World, (Instr.mapUpdate 61 (.map (some w.heap.size)) (.string ⟨#[114, 101, 97, 100]⟩) (.agg #[.int .i64 3, .func (.func 36) #[] #[]])).run Tryz.prog (w.alloc (.map #[{ key := .string ⟨#[97]⟩, val := .agg #[.int .i64 2, .func (.func 35) #[] #[]], born := 0 }, { key := .string ⟨#[98]⟩, val := .agg #[.int .i64 2, .func (.func 35) #[] #[]], born := 1 }] 2)) = .ok () (w.alloc (.map #[{ key := .string ⟨#[97]⟩, val := .agg #[.int .i64 2, .func (.func 35) #[] #[]], born := 0 }, { key := .string ⟨#[98]⟩, val := .agg #[.int .i64 2, .func (.func 35) #[] #[]], born := 1 }, { key := .string ⟨#[114, 101, 97, 100]⟩, val := .agg #[.int .i64 3, .func (.func 36) #[] #[]], born := 2 }] 3)) := fun w => run_insert_new Tryz.underlying61 Tryz.underlying9 _ (check_string Tryz.underlying9 _ _) w _ _ _ (by rfl)
  have hi3 : ∀ w : World, (Instr.mapUpdate 61 (.map (some w.heap.size)) (.string ⟨#[115, 116, 97, 116, 101]⟩) (.agg #[.int .i64 1, .func (.func 37) #[] #[]])).run Tryz.prog (w.alloc (.map #[{ key := .string ⟨#[97]⟩, val := .agg #[.int .i64 2, .func (.func 35) #[] #[]], born := 0 }, { key := .string ⟨#[98]⟩, val := .agg #[.int .i64 2, .func (.func 35) #[] #[]], born := 1 }, { key := .string ⟨#[114, 101, 97, 100]⟩, val := .agg #[.int .i64 3, .func (.func 36) #[] #[]], born := 2 }] 3)) = .ok () (w.alloc (.map #[{ key := .string ⟨#[97]⟩, val := .agg #[.int .i64 2, .func (.func 35) #[] #[]], born := 0 }, { key := .string ⟨#[98]⟩, val := .agg #[.int .i64 2, .func (.func 35) #[] #[]], born := 1 }, { key := .string ⟨#[114, 101, 97, 100]⟩, val := .agg #[.int .i64 3, .func (.func 36) #[] #[]], born := 2 }, { key := .string ⟨#[115, 116, 97, 116, 101]⟩, val := .agg #[.int .i64 1, .func (.func 37) #[] #[]], born := 3 }] 4)) := fun w => run_insert_new Tryz.underlying61 Tryz.underlying9 _ (check_string Tryz.underlying9 _ _) w _ _ _ (by rfl)
  have hi4 : ∀ w : World, (Instr.mapUpdate 61 (.map (some w.heap.size)) (.string ⟨#[99, 111, 117, 110, 116]⟩) (.agg #[.int .i64 1, .func (.func 38) #[] #[]])).run Tryz.prog (w.alloc (.map #[{ key := .string ⟨#[97]⟩, val := .agg #[.int .i64 2, .func (.func 35) #[] #[]], born := 0 }, { key := .string ⟨#[98]⟩, val := .agg #[.int .i64 2, .func (.func 35) #[] #[]], born := 1 }, { key := .string ⟨#[114, 101, 97, 100]⟩, val := .agg #[.int .i64 3, .func (.func 36) #[] #[]], born := 2 }, { key := .string ⟨#[115, 116, 97, 116, 101]⟩, val := .agg #[.int .i64 1, .func (.func 37) #[] #[]], born := 3 }] 4)) = .ok () (w.alloc (.map #[{ key := .string ⟨#[97]⟩, val := .agg #[.int .i64 2, .func (.func 35) #[] #[]], born := 0 }, { key := .string ⟨#[98]⟩, val := .agg #[.int .i64 2, .func (.func 35) #[] #[]], born := 1 }, { key := .string ⟨#[114, 101, 97, 100]⟩, val := .agg #[.int .i64 3, .func (.func 36) #[] #[]], born := 2 }, { key := .string ⟨#[115, 116, 97, 116, 101]⟩, val := .agg #[.int .i64 1, .func (.func 37) #[] #[]], born := 3 }, { key := .string ⟨#[99, 111, 117, 110, 116]⟩, val := .agg #[.int .i64 1, .func (.func 38) #[] #[]], born := 4 }] 5)) := fun w => run_insert_new Tryz.underlying61 Tryz.underlying9 _ (check_string Tryz.underlying9 _ _) w _ _ _ (by rfl)
  have hi5 : ∀ w : World, (Instr.mapUpdate 61 (.map (some w.heap.size)) (.string ⟨#[102, 97, 117, 108, 116]⟩) (.agg #[.int .i64 1, .func (.func 39) #[] #[]])).run Tryz.prog (w.alloc (.map #[{ key := .string ⟨#[97]⟩, val := .agg #[.int .i64 2, .func (.func 35) #[] #[]], born := 0 }, { key := .string ⟨#[98]⟩, val := .agg #[.int .i64 2, .func (.func 35) #[] #[]], born := 1 }, { key := .string ⟨#[114, 101, 97, 100]⟩, val := .agg #[.int .i64 3, .func (.func 36) #[] #[]], born := 2 }, { key := .string ⟨#[115, 116, 97, 116, 101]⟩, val := .agg #[.int .i64 1, .func (.func 37) #[] #[]], born := 3 }, { key := .string ⟨#[99, 111, 117, 110, 116]⟩, val := .agg #[.int .i64 1, .func (.func 38) #[] #[]], born := 4 }] 5)) = .ok () (w.alloc (.map #[{ key := .string ⟨#[97]⟩, val := .agg #[.int .i64 2, .func (.func 35) #[] #[]], born := 0 }, { key := .string ⟨#[98]⟩, val := .agg #[.int .i64 2, .func (.func 35) #[] #[]], born := 1 }, { key := .string ⟨#[114, 101, 97, 100]⟩, val := .agg #[.int .i64 3, .func (.func 36) #[] #[]], born := 2 }, { key := .string ⟨#[115, 116, 97, 116, 101]⟩, val := .agg #[.int .i64 1, .func (.func 37) #[] #[]], born := 3 }, { key := .string ⟨#[99, 111, 117, 110, 116]⟩, val := .agg #[.int .i64 1, .func (.func 38) #[] #[]], born := 4 }, { key := .string ⟨#[102, 97, 117, 108, 116]⟩, val := .agg #[.int .i64 1, .func (.func 39) #[] #[]], born := 5 }] 6)) := fun w => run_insert_new Tryz.underlying61 Tryz.underlying9 _ (check_string Tryz.underlying9 _ _) w _ _ _ (by rfl)
  have hi6 : ∀ w : World, (Instr.mapUpdate 61 (.map (some w.heap.size)) (.string ⟨#[110, 101, 119]⟩) (.agg #[.int .i64 1, .func (.func 40) #[] #[]])).run Tryz.prog (w.alloc (.map #[{ key := .string ⟨#[97]⟩, val := .agg #[.int .i64 2, .func (.func 35) #[] #[]], born := 0 }, { key := .string ⟨#[98]⟩, val := .agg #[.int .i64 2, .func (.func 35) #[] #[]], born := 1 }, { key := .string ⟨#[114, 101, 97, 100]⟩, val := .agg #[.int .i64 3, .func (.func 36) #[] #[]], born := 2 }, { key := .string ⟨#[115, 116, 97, 116, 101]⟩, val := .agg #[.int .i64 1, .func (.func 37) #[] #[]], born := 3 }, { key := .string ⟨#[99, 111, 117, 110, 116]⟩, val := .agg #[.int .i64 1, .func (.func 38) #[] #[]], born := 4 }, { key := .string ⟨#[102, 97, 117, 108, 116]⟩, val := .agg #[.int .i64 1, .func (.func 39) #[] #[]], born := 5 }] 6)) = .ok () (w.alloc (.map #[{ key := .string ⟨#[97]⟩, val := .agg #[.int .i64 2, .func (.func 35) #[] #[]], born := 0 }, { key := .string ⟨#[98]⟩, val := .agg #[.int .i64 2, .func (.func 35) #[] #[]], born := 1 }, { key := .string ⟨#[114, 101, 97, 100]⟩, val := .agg #[.int .i64 3, .func (.func 36) #[] #[]], born := 2 }, { key := .string ⟨#[115, 116, 97, 116, 101]⟩, val := .agg #[.int .i64 1, .func (.func 37) #[] #[]], born := 3 }, { key := .string ⟨#[99, 111, 117, 110, 116]⟩, val := .agg #[.int .i64 1, .func (.func 38) #[] #[]], born := 4 }, { key := .string ⟨#[102, 97, 117, 108, 116]⟩, val := .agg #[.int .i64 1, .func (.func 39) #[] #[]], born := 5 }, { key := .string ⟨#[110, 101, 119]⟩, val := .agg #[.int .i64 1, .func (.func 40) #[] #[]], born := 6 }] 7)) := fun w => run_insert_new Tryz.underlying61 Tryz.underlying9 _ (check_string Tryz.underlying9 _ _) w _ _ _ (by rfl)
  go_enter Tryz.func26, Tryz.ntmps26
  go_wp2
  go_ret
  exact ⟨rfl, rfl⟩
end Go.Proofs.YtkfogknohmkbpaaGreatDoor
