/- The walk of a script of the one line state, and of the law's example. -/
import Derived.Test.YtkfogknohmkbpaaGreatDoorWc
namespace Go.Proofs.YtkfogknohmkbpaaGreatDoor
open Go.RowKit

set_option maxRecDepth 100000
set_option maxHeartbeats 400000

/-- A new script lies in memory; nothing that lay there has turned. -/
def ScriptIn (w W : World) : Prop :=
  W.cell? ⟨w.heap.size + 5, 0, none⟩ = some (.pointer (some ⟨w.heap.size, 0, none⟩)) ∧ W.heap[w.heap.size]? = some (.cells (px0 (w.heap.size + 1 + 1) (w.heap.size + 1 + 1 + 1 + 1)) 93 (0, 0)) ∧ Below w.heap.size w W

theorem script_in (w : World) : Calls Tryz.prog 15 #[] w fun e w' => e = .returned (.pointer (some ⟨w.heap.size + 5, 0, none⟩)) ∧ ScriptIn w w' := by
  refine (script_new w).mono ?_
  rintro e w' ⟨rfl, rfl⟩
  have hb : Below w.heap.size w (withScript w).drew.drew := ((withProxy_below w).alloc (by rw [withProxy_size]; omega) _).drew.drew
  have hc : Blk (withScript w).drew.drew (w.heap.size + 5) 55 #[.pointer (some ⟨w.heap.size, 0, none⟩)] := by
    have := Blk.new (withProxy w) 55 #[.pointer (some ⟨w.heap.size, 0, none⟩)]
    rw [withProxy_size] at this
    exact this
  exact ⟨rfl, hc.cell 0, Blk.alloc (withProxy_block w) _, hb⟩

def waiting : List UInt8 := [119, 97, 105, 116, 105, 110, 103, 44, 32, 45, 44, 32, 45, 10]

theorem run_state (m : Int) (w : World) (h0 : 0 < w.heap.size) (hm : w.cell? ⟨0, 0, none⟩ = some (.int .i64 m)) :
    Calls Tryz.prog 10 #[.string ⟨#[115, 116, 97, 116, 101]⟩] w fun e w' =>
      e = .returned (.string ⟨#[119, 97, 105, 116, 105, 110, 103, 44, 32, 45, 44, 32, 45, 10]⟩) ∧ Below w.heap.size w w' := by
  have htrim : ∀ W, Calls Tryz.prog 17 #[.string ⟨#[115, 116, 97, 116, 101]⟩, .string ⟨#[10]⟩] W fun e w' => e = .returned (.string ⟨#[115, 116, 97, 116, 101]⟩) ∧ W = w' := fun W => by
    have := Tryz.strings_TrimSuffix ⟨#[115, 116, 97, 116, 101]⟩ ⟨#[10]⟩ W (by decide)
    have e : Lib.trimSuffix [115, 116, 97, 116, 101] [10] = [115, 116, 97, 116, 101] := by kernel_rfl
    rw [e] at this
    exact this.mono fun e w' h => ⟨h.1, h.2.symm⟩
  have hsplit : ∀ W : World, W.cell? ⟨0, 0, none⟩ = some (.int .i64 m) → Calls Tryz.prog 16 #[.string ⟨#[115, 116, 97, 116, 101]⟩, .string ⟨#[10]⟩] W fun e w' => e = .returned (.slice (some ⟨W.heap.size, 0, none⟩) 1 1) ∧ w' = W.alloc (.cells #[.string ⟨#[115, 116, 97, 116, 101]⟩] 9) := fun W hW => by
    have := Tryz.strings_Split ⟨#[115, 116, 97, 116, 101]⟩ ⟨#[10]⟩ m W (by decide) hW (by decide)
    have e1 : Lib.countB ⟨#[115, 116, 97, 116, 101]⟩ ⟨#[10]⟩ = 0 := by decide +kernel
    have e2 : (Lib.splitB ⟨#[10]⟩ 0 0 ⟨#[115, 116, 97, 116, 101]⟩).map Value.string = [.string ⟨#[115, 116, 97, 116, 101]⟩] := by kernel_rfl
    rw [e1, e2] at this
    simpa only [Nat.zero_add] using this
  have HT := Lib.hid htrim
  have HS := Lib.hid hsplit
  clear htrim hsplit
  go_enter Tryz.func10, Tryz.ntmps10
  go_wp2_with (go_at_call 15; refine (script_in _).mono ?_)
  rintro e W0 ⟨rfl, hs, hp, hb0⟩
  have hm0 : W0.cell? ⟨0, 0, none⟩ = some (.int .i64 m) := (hb0.cell (p := ⟨0, 0, none⟩) h0).trans hm
  have hb0s := hb0.size
  have Hb0 := Lib.hid hb0
  clear hb0 hm
  go_wp2_with (first | (go_at_call 17; refine (HT.out _).mono ?_; rintro e w' ⟨rfl, rfl⟩) | (go_at_call 16; refine (HS.out _ ?_).mono ?_; (exact (World.cell?_alloc_past _ 0 0 (by omega)).trans hm0); rintro e w' ⟨rfl, rfl⟩))
  refine wp_loop_rounds 2 ?_
  rw [rounds_succ]
  go_wp2_with fail
  refine (do_state (w.heap.size + 5) w.heap.size (w.heap.size + 1 + 1) (w.heap.size + 1 + 1 + 1 + 1) m _ ?_ ?_ ?_).mono ?_
  · exact (World.cell?_alloc_past _ 0 0 (by simp)).trans ((World.cell?_alloc_past _ 0 0 (by omega)).trans hm0)
  · exact (World.cell?_alloc_past _ _ 0 (by simp; have := lt_of_cell hs; omega)).trans ((World.cell?_alloc_past _ _ 0 (lt_of_cell hs)).trans hs)
  · exact Blk.alloc (Blk.alloc hp _) _
  rintro e w1 ⟨rfl, hb1⟩
  have hbl := bld_below (Lib.fresh_isBuilder 32 5 W0) (below_after (by go_grown) hb1)
  have hs1 := hb1.size
  simp only [World.size_alloc] at hs1
  go_wp2_with (go_at_call 20; refine (bld_string _ _ _ _ _ hbl (by simp [ByteArray.size]) (by omega)).mono ?_; rintro e w2 ⟨rfl, hbl2, hb2⟩)
  rw [rounds_succ]
  have hs2 := hb2.size
  go_wp2_with (go_at_call 12; refine (Tryz.Builder_String_any _ _ waiting _ (.inr hbl2) (by omega)).mono ?_; rintro e w3 ⟨rfl, hb3⟩)
  go_ret
  have hb0 := Hb0.out
  have k1 : Below w.heap.size w w1 := below_after (w := w) (by go_grown) hb1
  have k2 : Below w.heap.size w w2 := k1.trans (hb2.mono (by omega))
  exact ⟨rfl, k2.trans (hb3.mono (by omega))⟩

theorem alive_walk (m : Int) (w : World) (h0 : 0 < w.heap.size) (hm : w.cell? ⟨0, 0, none⟩ = some (.int .i64 m)) :
    Calls Tryz.prog 4 #[] w fun e w' => e = .returned (.bool true) ∧ Below w.heap.size w w' := by
  go_enter Tryz.func4, Tryz.ntmps4
  go_wp2_with (go_at_call 10; refine (run_state m _ h0 hm).mono ?_; rintro e w' ⟨rfl, hb⟩)
  go_ret
  exact ⟨rfl, hb⟩
end Go.Proofs.YtkfogknohmkbpaaGreatDoor
