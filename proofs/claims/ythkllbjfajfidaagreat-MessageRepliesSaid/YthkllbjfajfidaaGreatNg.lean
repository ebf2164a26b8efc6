/- The walks of finding.Proper and notice.Of where the verdict has no answer; the reference's. -/
import Derived.Test.YthkllbjfajfidaaGreatNf
namespace Go.Proofs.YthkllbjfajfidaaGreat
open Go.RowKit

set_option maxRecDepth 100000
set_option maxHeartbeats 1000000
set_option linter.unusedSimpArgs false

theorem proper_no (c s a : Int) (A : Option Addr) (n cap : Nat) (h : c < 1 ∨ 6 < c ∨ s < 0 ∨ 255 < s ∨ a < 0) (w : World) :
    Calls Tryz.prog 20 #[.agg #[.int .i64 4, .int .i64 c, .int .i64 s, .slice A n cap, .int .i64 a]] w fun e w' => e = .returned (.bool false) ∧ Gr w w' := by
  by_cases hc : 1 ≤ c ∧ c ≤ 6
  · obtain ⟨hc1, hc2⟩ := hc
    by_cases hs : 0 ≤ s ∧ s ≤ 255
    · obtain ⟨hs1, hs2⟩ := hs
      have ha : a < 0 := by omega
      have hd : decide (0 ≤ a) = false := by simp; omega
      clear h
      go_enter Tryz.func20, Tryz.ntmps20
      go_wp2
      all_goals
        go_ret
        exact ⟨rfl, (by unfold Gr; go_grown)⟩
    · have hs' : (0 ≤ s && s ≤ 255) = false := by simp; omega
      by_cases hs1 : 0 ≤ s
      · have hs2 : decide (s ≤ 255) = false := by simp; omega
        clear h hs hs'
        go_enter Tryz.func20, Tryz.ntmps20
        go_wp2
        all_goals
          go_ret
          exact ⟨rfl, (by unfold Gr; go_grown)⟩
      · have hs2 : decide (0 ≤ s) = false := by simp; omega
        clear h hs hs' hs1
        go_enter Tryz.func20, Tryz.ntmps20
        go_wp2
        all_goals
          go_ret
          exact ⟨rfl, (by unfold Gr; go_grown)⟩
  · by_cases hc1 : 1 ≤ c
    · have hs2 : decide (c ≤ 6) = false := by simp; omega
      clear h hc
      go_enter Tryz.func20, Tryz.ntmps20
      go_wp2
      all_goals
        go_ret
        exact ⟨rfl, (by unfold Gr; go_grown)⟩
    · have hs2 : decide (1 ≤ c) = false := by simp; omega
      clear h hc hc1
      go_enter Tryz.func20, Tryz.ntmps20
      go_wp2
      all_goals
        go_ret
        exact ⟨rfl, (by unfold Gr; go_grown)⟩

theorem rproper_yes (c s a : Int) (A : Option Addr) (n cap : Nat) (hc : 1 ≤ c) (hc6 : c ≤ 6) (hs : 0 ≤ s) (hs2 : s ≤ 255) (ha : 0 ≤ a) (w : World) :
    Calls Tryz.prog 22 #[.agg #[.int .i64 4, .int .i64 c, .int .i64 s, .slice A n cap, .int .i64 a]] w fun e w' => e = .returned (.bool true) ∧ Gr w w' := by
  go_enter Tryz.func22, Tryz.ntmps22
  go_wp2
  all_goals
    go_ret
    exact ⟨rfl, (by unfold Gr; go_grown)⟩
theorem rproper_no (c s a : Int) (A : Option Addr) (n cap : Nat) (h : c < 1 ∨ 6 < c ∨ s < 0 ∨ 255 < s ∨ a < 0) (w : World) :
    Calls Tryz.prog 22 #[.agg #[.int .i64 4, .int .i64 c, .int .i64 s, .slice A n cap, .int .i64 a]] w fun e w' => e = .returned (.bool false) ∧ Gr w w' := by
  by_cases ha : 0 ≤ a
  · by_cases hc : 1 ≤ c ∧ c ≤ 6
    · obtain ⟨hc1, hc2⟩ := hc
      by_cases hs1 : 0 ≤ s
      · have hs2 : decide (s ≤ 255) = false := by simp; omega
        clear h
        go_enter Tryz.func22, Tryz.ntmps22
        go_wp2
        all_goals
          go_ret
          exact ⟨rfl, (by unfold Gr; go_grown)⟩
      · have hs2 : decide (0 ≤ s) = false := by simp; omega
        clear h hs1
        go_enter Tryz.func22, Tryz.ntmps22
        go_wp2
        all_goals
          go_ret
          exact ⟨rfl, (by unfold Gr; go_grown)⟩
    · by_cases hc1 : 1 ≤ c
      · have hs2 : decide (c ≤ 6) = false := by simp; omega
        clear h hc
        go_enter Tryz.func22, Tryz.ntmps22
        go_wp2
        all_goals
          go_ret
          exact ⟨rfl, (by unfold Gr; go_grown)⟩
      · have hs2 : decide (1 ≤ c) = false := by simp; omega
        clear h hc hc1
        go_enter Tryz.func22, Tryz.ntmps22
        go_wp2
        all_goals
          go_ret
          exact ⟨rfl, (by unfold Gr; go_grown)⟩
  · have hd : decide (a < 0) = true := by simp; omega
    clear h ha
    go_enter Tryz.func22, Tryz.ntmps22
    go_wp2
    all_goals
      go_ret
      exact ⟨rfl, (by unfold Gr; go_grown)⟩

theorem of_note_kind (o0 ext o2 o3 o4 o5 : Bool) (k c s a : Int) (A : Option Addr) (n cap : Nat) (hk : k ≠ 4) (w : World) :
    Calls Tryz.prog 12 #[.agg #[.bool o0, .bool ext, .bool o2, .bool o3, .bool o4, .bool o5], .agg #[.int .i64 k, .int .i64 c, .int .i64 s, .slice A n cap, .int .i64 a]] w fun e w' => e = .returned (.tuple #[.agg #[.int .i64 0, .int .i64 0, .slice none 0 0], .bool false]) ∧ Gr w w' := by
  have hd : (k != 4) = true := by simpa using hk
  go_enter Tryz.func12, Tryz.ntmps12
  go_wp2
  refine bodyPost_ret (v := .tuple #[.agg #[.int .i64 0, .int .i64 0, .slice none 0 0], .bool false]) (by simp [results, Tryz.results12, go_sem]) rfl ⟨rfl, (by unfold Gr; go_grown)⟩
theorem of_note_bad (o0 ext o2 o3 o4 o5 : Bool) (c s a : Int) (A : Option Addr) (n cap : Nat) (h : c < 1 ∨ 6 < c ∨ s < 0 ∨ 255 < s ∨ a < 0) (w : World) :
    Calls Tryz.prog 12 #[.agg #[.bool o0, .bool ext, .bool o2, .bool o3, .bool o4, .bool o5], .agg #[.int .i64 4, .int .i64 c, .int .i64 s, .slice A n cap, .int .i64 a]] w fun e w' => e = .returned (.tuple #[.agg #[.int .i64 0, .int .i64 0, .slice none 0 0], .bool false]) ∧ Gr w w' := by
  have HP := Lib.hid (proper_no c s a A n cap h)
  clear h
  go_enter Tryz.func12, Tryz.ntmps12
  go_wp2_with (fail)
  refine (HP.out _).mono ?_
  rintro e w1 ⟨rfl, g1⟩
  have kR := Lib.hid (Blk.below (Blk.nat ((w.alloc (.cells #[.bool o0, .bool ext, .bool o2, .bool o3, .bool o4, .bool o5] 23)).alloc (.cells #[.int .i64 4, .int .i64 c, .int .i64 s, .slice A n cap, .int .i64 a] 26)) (w.heap.size + 1 + 1) (by simp) 37 #[.int .i64 0, .int .i64 0, .slice none 0 0]) g1 (by simp))
  have c0 : w1.cell? ⟨w.heap.size + 1 + 1, 0, none⟩ = some (.int .i64 0) := kR.out.cell 0
  have c1 : w1.cell? ⟨w.heap.size + 1 + 1, 1, none⟩ = some (.int .i64 0) := kR.out.cell 1
  have c2 : w1.cell? ⟨w.heap.size + 1 + 1, 2, none⟩ = some (.slice none 0 0) := kR.out.cell 2
  have z0 := kR.out.frozen 0
  have z1 := kR.out.frozen 1
  have z2 := kR.out.frozen 2
  have G1 := Lib.hid (show Gr w w1 from Gr.trans (by unfold Gr; go_grown) g1)
  clear g1
  go_wp2
  refine bodyPost_ret (v := .tuple #[.agg #[.int .i64 0, .int .i64 0, .slice none 0 0], .bool false]) (by simp [results, Tryz.results12, go_sem, c0, c1, c2]) rfl ⟨rfl, ?_⟩
  exact (((Below.setCell G1.out (p := ⟨w.heap.size + 1 + 1, 0, none⟩) (by simp; omega) _).setCell (p := ⟨w.heap.size + 1 + 1, 1, none⟩) (by simp; omega) _).setCell (p := ⟨w.heap.size + 1 + 1, 2, none⟩) (by simp; omega) _)

theorem rof_note_kind (o0 ext o2 o3 o4 o5 : Bool) (k c s a : Int) (A : Option Addr) (n cap : Nat) (hk : k ≠ 4) (w : World) :
    Calls Tryz.prog 13 #[.agg #[.bool o0, .bool ext, .bool o2, .bool o3, .bool o4, .bool o5], .agg #[.int .i64 k, .int .i64 c, .int .i64 s, .slice A n cap, .int .i64 a]] w fun e w' => e = .returned (.tuple #[.agg #[.int .i64 0, .int .i64 0, .slice none 0 0], .bool false]) ∧ Gr w w' := by
  have hd : (k != 4) = true := by simpa using hk
  go_enter Tryz.func13, Tryz.ntmps13
  go_wp2
  refine bodyPost_ret (v := .tuple #[.agg #[.int .i64 0, .int .i64 0, .slice none 0 0], .bool false]) (by simp [results, Tryz.results13, go_sem]) rfl ⟨rfl, (by unfold Gr; go_grown)⟩
theorem rof_note_bad (o0 ext o2 o3 o4 o5 : Bool) (c s a : Int) (A : Option Addr) (n cap : Nat) (h : c < 1 ∨ 6 < c ∨ s < 0 ∨ 255 < s ∨ a < 0) (w : World) :
    Calls Tryz.prog 13 #[.agg #[.bool o0, .bool ext, .bool o2, .bool o3, .bool o4, .bool o5], .agg #[.int .i64 4, .int .i64 c, .int .i64 s, .slice A n cap, .int .i64 a]] w fun e w' => e = .returned (.tuple #[.agg #[.int .i64 0, .int .i64 0, .slice none 0 0], .bool false]) ∧ Gr w w' := by
  have HP := Lib.hid (rproper_no c s a A n cap h)
  clear h
  go_enter Tryz.func13, Tryz.ntmps13
  go_wp2_with (fail)
  refine (HP.out _).mono ?_
  rintro e w1 ⟨rfl, g1⟩
  have kR := Lib.hid (Blk.below (Blk.nat ((w.alloc (.cells #[.bool o0, .bool ext, .bool o2, .bool o3, .bool o4, .bool o5] 23)).alloc (.cells #[.int .i64 4, .int .i64 c, .int .i64 s, .slice A n cap, .int .i64 a] 26)) (w.heap.size + 1 + 1) (by simp) 48 #[.int .i64 0, .int .i64 0, .slice none 0 0]) g1 (by simp))
  have c0 : w1.cell? ⟨w.heap.size + 1 + 1, 0, none⟩ = some (.int .i64 0) := kR.out.cell 0
  have c1 : w1.cell? ⟨w.heap.size + 1 + 1, 1, none⟩ = some (.int .i64 0) := kR.out.cell 1
  have c2 : w1.cell? ⟨w.heap.size + 1 + 1, 2, none⟩ = some (.slice none 0 0) := kR.out.cell 2
  have z0 := kR.out.frozen 0
  have z1 := kR.out.frozen 1
  have z2 := kR.out.frozen 2
  have G1 := Lib.hid (show Gr w w1 from Gr.trans (by unfold Gr; go_grown) g1)
  clear g1
  go_wp2
  refine bodyPost_ret (v := .tuple #[.agg #[.int .i64 0, .int .i64 0, .slice none 0 0], .bool false]) (by simp [results, Tryz.results13, go_sem, c0, c1, c2]) rfl ⟨rfl, ?_⟩
  exact (((Below.setCell G1.out (p := ⟨w.heap.size + 1 + 1, 0, none⟩) (by simp; omega) _).setCell (p := ⟨w.heap.size + 1 + 1, 1, none⟩) (by simp; omega) _).setCell (p := ⟨w.heap.size + 1 + 1, 2, none⟩) (by simp; omega) _)
end Go.Proofs.YthkllbjfajfidaaGreat
