/- The walk of the law's example. -/
import Derived.Test.YthkllbjfajfidaaGreatMf
import Derived.Test.YthkllbjfajfidaaGreatBk
import Derived.Test.YthkllbjfajfidaaGreatSn
namespace Go.Proofs.YthkllbjfajfidaaGreat
open Go.RowKit

set_option maxRecDepth 100000
set_option maxHeartbeats 2000000
set_option linter.unusedSimpArgs false

theorem alive_walk (w : World) : Calls Tryz.prog 4 #[] w fun e w' => e = .returned (.bool true) ∧ Gr w w' := by
  have HB := Lib.hid (msg_alive false false false false false false)
  have HT := Lib.hid (text_alive false false false false false false)
  unfold msgC at HB HT
  go_enter Tryz.func4, Tryz.ntmps4
  go_wp2_with (fail)
  refine (HB.out _).mono ?_
  rintro e w1 ⟨v, rfl, hv, g1⟩
  obtain ⟨A, c, rfl, _⟩ := hv
  simp only [headB_length]
  have kM := (Blk.new w 41 #[.int .i64 4, .int .u32 0, .int .i64 0, .int .u32 0, .slice none 0 0, .slice none 0 0, .slice none 0 0, .slice none 0 0, .int .i64 0, .int .i64 0, .slice none 0 0, .int .i64 0, .int .i64 0, .int .i64 0]).below g1 (Blk.new w 41 _).lt
  have d0 : w1.cell? ⟨w.heap.size, 0, none⟩ = some (.int .i64 4) := kM.cell 0
  have d1 : w1.cell? ⟨w.heap.size, 1, none⟩ = some (.int .u32 0) := kM.cell 1
  have d2 : w1.cell? ⟨w.heap.size, 2, none⟩ = some (.int .i64 0) := kM.cell 2
  have d3 : w1.cell? ⟨w.heap.size, 3, none⟩ = some (.int .u32 0) := kM.cell 3
  have d4 : w1.cell? ⟨w.heap.size, 4, none⟩ = some (.slice none 0 0) := kM.cell 4
  have d5 : w1.cell? ⟨w.heap.size, 5, none⟩ = some (.slice none 0 0) := kM.cell 5
  have d6 : w1.cell? ⟨w.heap.size, 6, none⟩ = some (.slice none 0 0) := kM.cell 6
  have d7 : w1.cell? ⟨w.heap.size, 7, none⟩ = some (.slice none 0 0) := kM.cell 7
  have d8 : w1.cell? ⟨w.heap.size, 8, none⟩ = some (.int .i64 0) := kM.cell 8
  have d9 : w1.cell? ⟨w.heap.size, 9, none⟩ = some (.int .i64 0) := kM.cell 9
  have d10 : w1.cell? ⟨w.heap.size, 10, none⟩ = some (.slice none 0 0) := kM.cell 10
  have d11 : w1.cell? ⟨w.heap.size, 11, none⟩ = some (.int .i64 0) := kM.cell 11
  have d12 : w1.cell? ⟨w.heap.size, 12, none⟩ = some (.int .i64 0) := kM.cell 12
  have d13 : w1.cell? ⟨w.heap.size, 13, none⟩ = some (.int .i64 0) := kM.cell 13
  have G1 := Lib.hid (show Gr w w1 from Gr.trans (by unfold Gr; go_grown) g1)
  clear g1 kM
  go_wp2_with (fail)
  refine (HT.out _).mono ?_
  rintro e w2 ⟨rfl, g2⟩
  have G2 := Lib.hid (Gr.trans G1.out g2)
  clear g2
  go_wp2
  go_ret
  exact ⟨rfl, G2.out⟩
end Go.Proofs.YthkllbjfajfidaaGreat
