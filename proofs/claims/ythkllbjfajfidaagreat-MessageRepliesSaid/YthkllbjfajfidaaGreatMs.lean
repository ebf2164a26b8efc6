/- Walks of message.Reply and the reference's Reply. -/
import Derived.Test.YthkllbjfajfidaaGreatNh
namespace Go.Proofs.YthkllbjfajfidaaGreat
open Go.RowKit

set_option maxRecDepth 100000
set_option maxHeartbeats 1000000
set_option linter.unusedSimpArgs false

/-- A message as cells: its kind, its OPEN, no update, its notification, no refresh. -/
def msgC (k a h i : Int) (caps : Value) (c s : Int) (d : Value) : Array Value :=
  #[.int .i64 k, .int .u32 a, .int .i64 h, .int .u32 i, caps, .slice none 0 0, .slice none 0 0, .slice none 0 0, .int .i64 c, .int .i64 s, d, .int .i64 0, .int .i64 0, .int .i64 0]
def msg0 : Array Value := msgC 0 0 0 0 (.slice none 0 0) 0 0 (.slice none 0 0)
theorem msg_noB (k a h i : Int) (A : Option Addr) (n1 c1 : Nat) (c s : Int) (B : Option Addr) (n2 c2 : Nat) : ∀ u ∈ (msgC k a h i (.slice A n1 c1) c s (.slice B n2 c2)).toList, ∀ x, u ≠ byteV x := by
  intro u hu x hx
  subst hx
  simp [msgC, byteV] at hu
theorem reply_yes (o0 ext o2 o3 o4 o5 : Bool) (c s a : Int) (A : Option Addr) (cap : Nat) (l : List UInt8) (hc : 1 ≤ c) (hc6 : c ≤ 6) (hs : 0 ≤ s) (hs2 : s ≤ 255) (ha : 0 ≤ a) (hl : l.length ≤ 4000) (w : World) (hb : IsB w (.slice A l.length cap) l) :
    Calls Tryz.prog 5 #[.agg #[.bool o0, .bool ext, .bool o2, .bool o3, .bool o4, .bool o5], .agg #[.int .i64 4, .int .i64 c, .int .i64 s, .slice A l.length cap, .int .i64 a]] w fun e w' => ∃ B cap', e = .returned (.tuple #[.agg (msgC 3 0 0 0 (.slice none 0 0) c s (.slice B l.length cap')), .bool true]) ∧ IsB w' (.slice B l.length cap') l ∧ Gr w w' := by
  have hB := Lib.hid hb
  clear hb
  go_enter Tryz.func5, Tryz.ntmps5
  go_wp2_with (fail)
  refine (of_note_yes o0 ext o2 o3 o4 o5 c s a A cap l hc hc6 hs hs2 ha hl _ (hB.out.gr (by unfold Gr; go_grown))).mono ?_
  rintro e w1 ⟨B, cp, rfl, hb1, g1⟩
  have kR := Lib.hid (show Blk w1 (w.heap.size + 1 + 1) 41 msg0 from Blk.below (Blk.nat ((w.alloc (.cells #[.bool o0, .bool ext, .bool o2, .bool o3, .bool o4, .bool o5] 23)).alloc (.cells #[.int .i64 4, .int .i64 c, .int .i64 s, .slice A l.length cap, .int .i64 a] 26)) (w.heap.size + 1 + 1) (by simp) 41 msg0) g1 (by simp))
  have G1 := Lib.hid (show Gr w w1 from Gr.trans (by unfold Gr; go_grown) g1)
  have hb1 := Lib.hid hb1
  clear g1
  go_wp2_with (first
    | (refine wpList_buildTo rfl 41 _ rfl (some 18) rfl (msgC 3 0 0 0 (.slice none 0 0) c s (.slice B l.length cp)) (by as_aux_lemma => kernel_rfl) ?_)
    | (refine wpList_store_rowTo rfl 41 (.tmp 4) _ rfl rfl (w.heap.size + 1 + 1) (msgC 3 0 0 0 (.slice none 0 0) c s (.slice B l.length cp)) rfl rfl 41 msg0 (kR.out.alloc _) (by as_aux_lemma => kernel_rfl) (by as_aux_lemma => kernel_rfl) (by as_aux_lemma => kernel_rfl) ?_))
  have R1 := (kR.out.alloc (.cells #[.int .i64 c, .int .i64 s, .slice B l.length cp] 37))
  have hfin := (hb1.out.gr (Gr.alloc w1 (.cells #[.int .i64 c, .int .i64 s, .slice B l.length cp] 37))).setRow (w.heap.size + 1 + 1) (msgC 3 0 0 0 (.slice none 0 0) c s (.slice B l.length cp)) (R1.noB (msg_noB 0 0 0 0 none 0 0 0 0 none 0 0))
  have R2 := R1.setRow (cs := msgC 3 0 0 0 (.slice none 0 0) c s (.slice B l.length cp))
  refine bodyPost_ret (v := .tuple #[.agg (msgC 3 0 0 0 (.slice none 0 0) c s (.slice B l.length cp)), .bool true])
    (results_cell_tmp Tryz.results5 _ _ ⟨w.heap.size + 1 + 1, 0, none⟩ _ _ rfl (run_loadVar_row _ _ _ _ _ _ _ R2 Tryz.underlying41 rfl (by as_aux_lemma => kernel_rfl)) rfl) rfl ⟨B, cp, rfl, hfin, ?_⟩
  exact below_setRow (Gr.trans G1.out (Gr.alloc _ _)) (by omega) _

theorem rreply_yes (o0 ext o2 o3 o4 o5 : Bool) (c s a : Int) (A : Option Addr) (cap : Nat) (l : List UInt8) (hc : 1 ≤ c) (hc6 : c ≤ 6) (hs : 0 ≤ s) (hs2 : s ≤ 255) (ha : 0 ≤ a) (hl : l.length ≤ 4000) (w : World) (hb : IsB w (.slice A l.length cap) l) :
    Calls Tryz.prog 6 #[.agg #[.bool o0, .bool ext, .bool o2, .bool o3, .bool o4, .bool o5], .agg #[.int .i64 4, .int .i64 c, .int .i64 s, .slice A l.length cap, .int .i64 a]] w fun e w' => ∃ B cap', e = .returned (.tuple #[.agg (msgC 3 0 0 0 (.slice none 0 0) c s (.slice B l.length cap')), .bool true]) ∧ IsB w' (.slice B l.length cap') l ∧ Gr w w' := by
  have hB := Lib.hid hb
  clear hb
  go_enter Tryz.func6, Tryz.ntmps6
  go_wp2_with (fail)
  refine (rof_note_yes o0 ext o2 o3 o4 o5 c s a A cap l hc hc6 hs hs2 ha hl _ (hB.out.gr (by unfold Gr; go_grown))).mono ?_
  rintro e w1 ⟨B, cp, rfl, hb1, g1⟩
  have kR := Lib.hid (show Blk w1 (w.heap.size + 1 + 1) 51 msg0 from Blk.below (Blk.nat ((w.alloc (.cells #[.bool o0, .bool ext, .bool o2, .bool o3, .bool o4, .bool o5] 23)).alloc (.cells #[.int .i64 4, .int .i64 c, .int .i64 s, .slice A l.length cap, .int .i64 a] 26)) (w.heap.size + 1 + 1) (by simp) 51 msg0) g1 (by simp))
  have G1 := Lib.hid (show Gr w w1 from Gr.trans (by unfold Gr; go_grown) g1)
  have hb1 := Lib.hid hb1
  clear g1
  go_wp2_with (first
    | (refine wpList_buildTo rfl 51 _ rfl (some 18) rfl (msgC 3 0 0 0 (.slice none 0 0) c s (.slice B l.length cp)) (by as_aux_lemma => kernel_rfl) ?_)
    | (refine wpList_store_rowTo rfl 51 (.tmp 4) _ rfl rfl (w.heap.size + 1 + 1) (msgC 3 0 0 0 (.slice none 0 0) c s (.slice B l.length cp)) rfl rfl 51 msg0 (kR.out.alloc _) (by as_aux_lemma => kernel_rfl) (by as_aux_lemma => kernel_rfl) (by as_aux_lemma => kernel_rfl) ?_))
  have R1 := (kR.out.alloc (.cells #[.int .i64 c, .int .i64 s, .slice B l.length cp] 48))
  have hfin := (hb1.out.gr (Gr.alloc w1 (.cells #[.int .i64 c, .int .i64 s, .slice B l.length cp] 48))).setRow (w.heap.size + 1 + 1) (msgC 3 0 0 0 (.slice none 0 0) c s (.slice B l.length cp)) (R1.noB (msg_noB 0 0 0 0 none 0 0 0 0 none 0 0))
  have R2 := R1.setRow (cs := msgC 3 0 0 0 (.slice none 0 0) c s (.slice B l.length cp))
  refine bodyPost_ret (v := .tuple #[.agg (msgC 3 0 0 0 (.slice none 0 0) c s (.slice B l.length cp)), .bool true])
    (results_cell_tmp Tryz.results6 _ _ ⟨w.heap.size + 1 + 1, 0, none⟩ _ _ rfl (run_loadVar_row _ _ _ _ _ _ _ R2 Tryz.underlying51 rfl (by as_aux_lemma => kernel_rfl)) rfl) rfl ⟨B, cp, rfl, hfin, ?_⟩
  exact below_setRow (Gr.trans G1.out (Gr.alloc _ _)) (by omega) _

theorem reply_no (o0 ext o2 o3 o4 o5 : Bool) (k c s a : Int) (A : Option Addr) (n cap : Nat) (w : World)
    (HO : ∀ W, Calls Tryz.prog 12 #[.agg #[.bool o0, .bool ext, .bool o2, .bool o3, .bool o4, .bool o5], .agg #[.int .i64 k, .int .i64 c, .int .i64 s, .slice A n cap, .int .i64 a]] W fun e w' => e = .returned (.tuple #[.agg #[.int .i64 0, .int .i64 0, .slice none 0 0], .bool false]) ∧ Gr W w') :
    Calls Tryz.prog 5 #[.agg #[.bool o0, .bool ext, .bool o2, .bool o3, .bool o4, .bool o5], .agg #[.int .i64 k, .int .i64 c, .int .i64 s, .slice A n cap, .int .i64 a]] w fun e w' => e = .returned (.tuple #[.agg msg0, .bool false]) ∧ Gr w w' := by
  have H := Lib.hid HO
  clear HO
  go_enter Tryz.func5, Tryz.ntmps5
  go_wp2_with (fail)
  refine (H.out _).mono ?_
  rintro e w1 ⟨rfl, g1⟩
  have kR := Lib.hid (show Blk w1 (w.heap.size + 1 + 1) 41 msg0 from Blk.below (Blk.nat ((w.alloc (.cells #[.bool o0, .bool ext, .bool o2, .bool o3, .bool o4, .bool o5] 23)).alloc (.cells #[.int .i64 k, .int .i64 c, .int .i64 s, .slice A n cap, .int .i64 a] 26)) (w.heap.size + 1 + 1) (by simp) 41 msg0) g1 (by simp))
  have G1 := Lib.hid (show Gr w w1 from Gr.trans (by unfold Gr; go_grown) g1)
  clear g1
  go_wp2_with (first
    | (refine wpList_buildTo rfl 41 _ rfl (some 16) rfl msg0 (by as_aux_lemma => kernel_rfl) ?_)
    | (refine wpList_store_rowTo rfl 41 (.tmp 4) _ rfl rfl (w.heap.size + 1 + 1) msg0 rfl rfl 41 msg0 (kR.out.alloc _) (by as_aux_lemma => kernel_rfl) (by as_aux_lemma => kernel_rfl) (by as_aux_lemma => kernel_rfl) ?_))
  have R1 := (kR.out.alloc (.cells #[.int .i64 0, .int .i64 0, .slice none 0 0] 37))
  have R2 := R1.setRow (cs := msg0)
  refine bodyPost_ret (v := .tuple #[.agg msg0, .bool false])
    (results_cell_tmp Tryz.results5 _ _ ⟨w.heap.size + 1 + 1, 0, none⟩ _ _ rfl (run_loadVar_row _ _ _ _ _ _ _ R2 Tryz.underlying41 rfl (by as_aux_lemma => kernel_rfl)) rfl) rfl ⟨rfl, ?_⟩
  exact below_setRow (Gr.trans G1.out (Gr.alloc _ _)) (by omega) _

theorem rreply_no (o0 ext o2 o3 o4 o5 : Bool) (k c s a : Int) (A : Option Addr) (n cap : Nat) (w : World)
    (HO : ∀ W, Calls Tryz.prog 13 #[.agg #[.bool o0, .bool ext, .bool o2, .bool o3, .bool o4, .bool o5], .agg #[.int .i64 k, .int .i64 c, .int .i64 s, .slice A n cap, .int .i64 a]] W fun e w' => e = .returned (.tuple #[.agg #[.int .i64 0, .int .i64 0, .slice none 0 0], .bool false]) ∧ Gr W w') :
    Calls Tryz.prog 6 #[.agg #[.bool o0, .bool ext, .bool o2, .bool o3, .bool o4, .bool o5], .agg #[.int .i64 k, .int .i64 c, .int .i64 s, .slice A n cap, .int .i64 a]] w fun e w' => e = .returned (.tuple #[.agg msg0, .bool false]) ∧ Gr w w' := by
  have H := Lib.hid HO
  clear HO
  go_enter Tryz.func6, Tryz.ntmps6
  go_wp2_with (fail)
  refine (H.out _).mono ?_
  rintro e w1 ⟨rfl, g1⟩
  have kR := Lib.hid (show Blk w1 (w.heap.size + 1 + 1) 51 msg0 from Blk.below (Blk.nat ((w.alloc (.cells #[.bool o0, .bool ext, .bool o2, .bool o3, .bool o4, .bool o5] 23)).alloc (.cells #[.int .i64 k, .int .i64 c, .int .i64 s, .slice A n cap, .int .i64 a] 26)) (w.heap.size + 1 + 1) (by simp) 51 msg0) g1 (by simp))
  have G1 := Lib.hid (show Gr w w1 from Gr.trans (by unfold Gr; go_grown) g1)
  clear g1
  go_wp2_with (first
    | (refine wpList_buildTo rfl 51 _ rfl (some 16) rfl msg0 (by as_aux_lemma => kernel_rfl) ?_)
    | (refine wpList_store_rowTo rfl 51 (.tmp 4) _ rfl rfl (w.heap.size + 1 + 1) msg0 rfl rfl 51 msg0 (kR.out.alloc _) (by as_aux_lemma => kernel_rfl) (by as_aux_lemma => kernel_rfl) (by as_aux_lemma => kernel_rfl) ?_))
  have R1 := (kR.out.alloc (.cells #[.int .i64 0, .int .i64 0, .slice none 0 0] 48))
  have R2 := R1.setRow (cs := msg0)
  refine bodyPost_ret (v := .tuple #[.agg msg0, .bool false])
    (results_cell_tmp Tryz.results6 _ _ ⟨w.heap.size + 1 + 1, 0, none⟩ _ _ rfl (run_loadVar_row _ _ _ _ _ _ _ R2 Tryz.underlying51 rfl (by as_aux_lemma => kernel_rfl)) rfl) rfl ⟨rfl, ?_⟩
  exact below_setRow (Gr.trans G1.out (Gr.alloc _ _)) (by omega) _
end Go.Proofs.YthkllbjfajfidaaGreat
