/- The walks of the command state and of a script of this one line. -/
import Derived.Test.YtkfogknohmkbpaaGreatDoorWb
import Derived.Test.YtkfogknohmkbpaaGreatDoorBld
import Derived.Test.YtkfogknohmkbpaaGreatDoorShelf
import Derived.Lib.Hide
import Derived.Laws.EntriesVeiled
namespace Go.Proofs.YtkfogknohmkbpaaGreatDoor
open Go.RowKit

set_option maxRecDepth 100000
set_option maxHeartbeats 400000

def stateWord : ByteArray := ⟨#[115, 116, 97, 116, 101]⟩
theorem Blk0.at1 (W : World) (o x : Obj) : (((W.alloc o).alloc x).drew).heap[W.heap.size + 1]? = some x := by
  have := heap_alloc_new (W.alloc o) x
  rw [World.size_alloc] at this
  exact this
theorem Blk0.at2 (W : World) (o x o' : Obj) : ((((W.alloc o).alloc x).alloc o').drew).heap[W.heap.size + 1]? = some x :=
  (heap_alloc_old ((W.alloc o).alloc x) o' (by simp)).trans (Blk0.at1 W o x)
theorem Blk0.at3 (W : World) (o o' x : Obj) : ((((W.alloc o).alloc o').alloc x).drew).heap[W.heap.size + 1 + 1]? = some x := by
  have := heap_alloc_new ((W.alloc o).alloc o') x
  rw [World.size_alloc, World.size_alloc] at this
  exact this
theorem find_state : Instr.findNow .string (.string ⟨#[115, 116, 97, 116, 101]⟩) cmds.toList 0 = some (some (3, .agg #[.int .i64 1, .func (.func 37) #[] #[]])) := by rfl

set_option maxHeartbeats 4000000 in
theorem do_state (sb b f g : Nat) (m : Int) (w : World) (hm : w.cell? ⟨0, 0, none⟩ = some (.int .i64 m)) (hs : w.cell? ⟨sb, 0, none⟩ = some (.pointer (some ⟨b, 0, none⟩))) (h : w.heap[b]? = some (.cells (px0 f g) 93 (0, 0))) :
    Calls Tryz.prog 18 #[.pointer (some ⟨sb, 0, none⟩), .string ⟨#[115, 116, 97, 116, 101]⟩] w fun e w' =>
      e = .returned (.tuple #[.string ⟨#[119, 97, 105, 116, 105, 110, 103, 44, 32, 45, 44, 32, 45, 10]⟩, .int .i64 0]) ∧ Below w.heap.size w w' := by
  have hsplit := Tryz.strings_Split ⟨#[115, 116, 97, 116, 101]⟩ ⟨#[32]⟩ m w (by decide) hm (by decide)
  have e1 : Lib.countB ⟨#[115, 116, 97, 116, 101]⟩ ⟨#[32]⟩ = 0 := by decide +kernel
  have e2 : (Lib.splitB ⟨#[32]⟩ 0 0 ⟨#[115, 116, 97, 116, 101]⟩).map Value.string = [.string ⟨#[115, 116, 97, 116, 101]⟩] := by kernel_rfl
  rw [e1, e2] at hsplit
  simp only [Nat.zero_add] at hsplit
  clear e1 e2
  have H := Lib.hid hsplit
  clear hsplit
  have hl1 : ∀ (W : World) (o : Obj), (Instr.lookup 61 (.map (some (W.heap.size + 1))) (.string ⟨#[115, 116, 97, 116, 101]⟩) true).run Tryz.prog (((W.alloc o).alloc (.map cmds 7)).drew) = .ok (.tuple #[.agg #[.int .i64 1, .func (.func 37) #[] #[]], .bool true]) (((W.alloc o).alloc (.map cmds 7)).drew) :=
    fun W o => run_lookup_hit Tryz.underlying61 Tryz.underlying9 _ (check_string Tryz.underlying9 · _) _ _ cmds 7 (Blk0.at1 W o _) 3 _ find_state
  have hl2 : ∀ (W : World) (o : Obj) (o' : Obj), (Instr.lookup 61 (.map (some (W.heap.size + 1))) (.string ⟨#[115, 116, 97, 116, 101]⟩) true).run Tryz.prog ((((W.alloc o).alloc (.map cmds 7)).alloc o').drew) = .ok (.tuple #[.agg #[.int .i64 1, .func (.func 37) #[] #[]], .bool true]) ((((W.alloc o).alloc (.map cmds 7)).alloc o').drew) :=
    fun W o o' => run_lookup_hit Tryz.underlying61 Tryz.underlying9 _ (check_string Tryz.underlying9 · _) _ _ cmds 7 (Blk0.at2 W o _ o') 3 _ find_state
  have hl3 : ∀ (W : World) (o : Obj) (o' : Obj), (Instr.lookup 61 (.map (some (W.heap.size + 1 + 1))) (.string ⟨#[115, 116, 97, 116, 101]⟩) true).run Tryz.prog ((((W.alloc o).alloc o').alloc (.map cmds 7)).drew) = .ok (.tuple #[.agg #[.int .i64 1, .func (.func 37) #[] #[]], .bool true]) ((((W.alloc o).alloc o').alloc (.map cmds 7)).drew) :=
    fun W o o' => run_lookup_hit Tryz.underlying61 Tryz.underlying9 _ (check_string Tryz.underlying9 · _) _ _ cmds 7 (Blk0.at3 W o o' _) 3 _ find_state
  go_enter Tryz.func18, Tryz.ntmps18
  go_wp2_with (go_at_call 16; refine H.out.mono ?_; rintro e w' ⟨rfl, rfl⟩)
  go_region_with (go_at_call 26; refine (commands_walk _).mono ?_; rintro e w' ⟨rfl, rfl⟩)
  all_goals
    clear hl1 hl2 hl3
    go_wp2_with (go_at_call 37; refine (state_new sb b f g _ _ ?_ ?_).mono ?_; (refine (st_of hs h ?_).1; go_grown); (refine (st_of hs h ?_).2; go_grown); rintro e w' ⟨rfl, hb⟩)
    go_ret2
    exact ⟨rfl, below_after (by go_grown) hb⟩
end Go.Proofs.YtkfogknohmkbpaaGreatDoor
