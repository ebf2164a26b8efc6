/- Walks of the bodies' methods at zero values, and of the notification's form. -/
import Derived.Test.YthkllbjfajfidaaGreatNf
import Derived.Laws.StructEq
namespace Go.Proofs.YthkllbjfajfidaaGreat
open Go.RowKit

set_option maxRecDepth 100000
set_option maxHeartbeats 1000000
set_option linter.unusedSimpArgs false

theorem eqfunc_nil (f : Value) (w : World) : Calls Tryz.prog 77 #[.slice none 0 0, .slice none 0 0, f] w fun e w' => e = .returned (.bool true) ∧ Gr w w' := by
  go_enter Tryz.func77, Tryz.ntmps77
  go_wp2
  refine wp_loop_rounds 1 ?_
  rw [rounds_succ]
  go_wp2
  go_ret
  exact ⟨rfl, Gr.refl _⟩
theorem capsame_nil (w : World) : Calls Tryz.prog 69 #[.slice none 0 0, .slice none 0 0] w fun e w' => e = .returned (.bool true) ∧ Gr w w' := by
  go_enter Tryz.func69, Tryz.ntmps69
  go_wp2_with (fail)
  refine (eqfunc_nil _ _).mono ?_
  rintro e w1 ⟨rfl, g1⟩
  go_wp2
  go_ret
  exact ⟨rfl, g1⟩
theorem opensame_nil (w : World) : Calls Tryz.prog 65 #[.agg #[.int .u32 0, .int .i64 0, .int .u32 0, .slice none 0 0], .agg #[.int .u32 0, .int .i64 0, .int .u32 0, .slice none 0 0]] w fun e w' => e = .returned (.bool true) ∧ Gr w w' := by
  go_enter Tryz.func65, Tryz.ntmps65
  go_wp2_with (fail)
  refine (capsame_nil _).mono ?_
  rintro e w1 ⟨rfl, g1⟩
  have G1 := Lib.hid (show Gr w w1 from Gr.trans (by unfold Gr; go_grown) g1)
  clear g1
  go_wp2
  go_ret
  exact ⟨rfl, G1.out⟩
theorem opening_empty (w : World) : Calls Tryz.prog 62 #[.agg #[.int .u32 0, .int .i64 0, .int .u32 0, .slice none 0 0]] w fun e w' => e = .returned (.bool true) ∧ Gr w w' := by
  go_enter Tryz.func62, Tryz.ntmps62
  go_wp2_with (fail)
  refine (opensame_nil _).mono ?_
  rintro e w1 ⟨rfl, g1⟩
  have G1 := Lib.hid (show Gr w w1 from Gr.trans (by unfold Gr; go_grown) g1)
  clear g1
  go_wp2
  go_ret
  exact ⟨rfl, G1.out⟩
theorem change_empty (w : World) : Calls Tryz.prog 112 #[.agg #[.slice none 0 0, .slice none 0 0, .slice none 0 0]] w fun e w' => e = .returned (.bool true) ∧ Gr w w' := by
  go_enter Tryz.func112, Tryz.ntmps112
  go_wp2
  go_ret
  exact ⟨rfl, (by unfold Gr; go_grown)⟩
theorem alive_empty (w : World) : Calls Tryz.prog 190 #[.agg #[]] w fun e w' => e = .returned (.bool true) ∧ Gr w w' := by
  go_enter Tryz.func190, Tryz.ntmps190
  go_wp2
  go_ret
  exact ⟨rfl, (by unfold Gr; go_grown)⟩
theorem note_empty (w : World) : Calls Tryz.prog 173 #[.agg #[.int .i64 0, .int .i64 0, .slice none 0 0]] w fun e w' => e = .returned (.bool true) ∧ Gr w w' := by
  have hcv : ∀ w, (convert 24 9 (.slice none 0 0)).run Tryz.prog w = .ok (.string ⟨#[]⟩) w := fun _ => by kernel_rfl
  go_enter Tryz.func173, Tryz.ntmps173
  go_wp2
  go_ret
  exact ⟨rfl, (by unfold Gr; go_grown)⟩
theorem request_empty (w : World) : Calls Tryz.prog 181 #[.agg #[.int .i64 0, .int .i64 0, .int .i64 0]] w fun e w' => e = .returned (.bool true) ∧ Gr w w' := by
  go_enter Tryz.func181, Tryz.ntmps181
  go_wp2
  go_ret
  exact ⟨rfl, (by unfold Gr; go_grown)⟩
theorem note_bytes (c s : Int) (A : Option Addr) (cap : Nat) (l : List UInt8) (o0 ext o2 o3 o4 o5 : Bool) (hc : 0 ≤ c) (hc6 : c ≤ 255) (hs : 0 ≤ s) (hs2 : s ≤ 255) (hn : l.length ≤ 65514) (w : World) (hb : IsB w (.slice A l.length cap) l) :
    Calls Tryz.prog 172 #[.agg #[.int .i64 c, .int .i64 s, .slice A l.length cap], .agg #[.bool o0, .bool ext, .bool o2, .bool o3, .bool o4, .bool o5]] w fun e w' => ∃ v, e = .returned (.tuple #[v, .bool true]) ∧ IsB w' v (noteB c s l) ∧ Gr w w' := by
  have hB := Lib.hid hb
  clear hb
  go_enter Tryz.func172, Tryz.ntmps172
  go_wp2_with (fail)
  refine (bytes_note c s A cap l hc hc6 hs hs2 hn _ (hB.out.gr (by unfold Gr; go_grown))).mono ?_
  rintro e w1 ⟨v, rfl, hv, g1⟩
  have G1 := Lib.hid (show Gr w w1 from Gr.trans (by unfold Gr; go_grown) g1)
  have hv := Lib.hid hv
  clear g1
  go_wp2
  go_ret2
  exact ⟨v, rfl, hv.out, G1.out⟩
theorem alive_bytes (o0 ext o2 o3 o4 o5 : Bool) (w : World) :
    Calls Tryz.prog 189 #[.agg #[], .agg #[.bool o0, .bool ext, .bool o2, .bool o3, .bool o4, .bool o5]] w fun e w' => e = .returned (.tuple #[.slice none 0 0, .bool true]) ∧ Gr w w' := by
  go_enter Tryz.func189, Tryz.ntmps189
  go_wp2
  go_ret2
  exact ⟨rfl, (by unfold Gr; go_grown)⟩
end Go.Proofs.YthkllbjfajfidaaGreat
