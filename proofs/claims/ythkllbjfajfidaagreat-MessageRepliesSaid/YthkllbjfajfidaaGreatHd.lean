/- Walks of the header package: the rows of kinds, the limits. -/
import Derived.Test.YthkllbjfajfidaaGreatRp
namespace Go.Proofs.YthkllbjfajfidaaGreat
open Go.RowKit

set_option maxRecDepth 100000
set_option maxHeartbeats 400000

def rowsV : Array Value := #[.string ⟨#[]⟩, .int .i64 0, .int .i64 0, .bool false,
  .string ⟨#[79, 80, 69, 78]⟩, .int .i64 29, .int .i64 4096, .bool false,
  .string ⟨#[85, 80, 68, 65, 84, 69]⟩, .int .i64 23, .int .i64 4096, .bool true,
  .string ⟨#[78, 79, 84, 73, 70, 73, 67, 65, 84, 73, 79, 78]⟩, .int .i64 21, .int .i64 4096, .bool true,
  .string ⟨#[75, 69, 69, 80, 65, 76, 73, 86, 69]⟩, .int .i64 19, .int .i64 19, .bool false,
  .string ⟨#[82, 79, 85, 84, 69, 45, 82, 69, 70, 82, 69, 83, 72]⟩, .int .i64 23, .int .i64 23, .bool false]

theorem rows_walk (w : World) : Calls Tryz.prog 41 #[] w fun e w' => e = .returned (.agg rowsV) ∧ w' = w.alloc (.cells rowsV 122) := by
  go_enter Tryz.func41, Tryz.ntmps41
  go_wp2_with (first
    | (refine wpList_buildTo rfl 122 _ rfl (some 6) rfl rowsV (by as_aux_lemma => kernel_rfl) ?_)
    | (refine wpList_store_rowTo rfl 122 _ _ rfl rfl w.heap.size rowsV rfl rfl 122 _ (heap_alloc_new w _) (by as_aux_lemma => kernel_rfl) (by as_aux_lemma => kernel_rfl) (by as_aux_lemma => kernel_rfl) ?_))
  rw [World.setRow_alloc_new]
  refine bodyPost_ret (v := .agg rowsV) (results_cell1 Tryz.results41 _ _ ⟨w.heap.size, 0, none⟩ _ rfl ?_) rfl ⟨rfl, rfl⟩
  exact run_loadVar_new (P := Tryz.prog) w 122 rowsV 6 114 Tryz.underlying122 (by kernel_rfl)

def rowOf : Nat → Array Value
  | 1 => #[.string ⟨#[79, 80, 69, 78]⟩, .int .i64 29, .int .i64 4096, .bool false]
  | 2 => #[.string ⟨#[85, 80, 68, 65, 84, 69]⟩, .int .i64 23, .int .i64 4096, .bool true]
  | 3 => #[.string ⟨#[78, 79, 84, 73, 70, 73, 67, 65, 84, 73, 79, 78]⟩, .int .i64 21, .int .i64 4096, .bool true]
  | 4 => #[.string ⟨#[75, 69, 69, 80, 65, 76, 73, 86, 69]⟩, .int .i64 19, .int .i64 19, .bool false]
  | 5 => #[.string ⟨#[82, 79, 85, 84, 69, 45, 82, 69, 70, 82, 69, 83, 72]⟩, .int .i64 23, .int .i64 23, .bool false]
  | _ => #[.string ⟨#[]⟩, .int .i64 0, .int .i64 0, .bool false]
def leastOf : Nat → Nat
  | 1 => 29
  | 2 => 23
  | 3 => 21
  | 4 => 19
  | 5 => 23
  | _ => 0
def limitOf (ext : Bool) : Nat → Nat
  | 1 => 4096
  | 2 => if ext then 65535 else 4096
  | 3 => if ext then 65535 else 4096
  | 4 => 19
  | 5 => 23
  | _ => 0
theorem rowOf_big (k : Nat) (h : 6 ≤ k) : rowOf k = rowOf 0 := by
  match k, h with
  | k + 6, _ => rfl
theorem leastOf_big (k : Nat) (h : 6 ≤ k) : leastOf k = 0 := by
  match k, h with
  | k + 6, _ => rfl
theorem limitOf_big (b : Bool) (k : Nat) (h : 6 ≤ k) : limitOf b k = 0 := by
  match k, h with
  | k + 6, _ => rfl
theorem index_rows0 (w : World) : (Instr.index 122 (.agg rowsV) (.int .i64 0)).run Tryz.prog w = .ok (.agg (rowOf 0)) w := by kernel_rfl
theorem index_rows1 (w : World) : (Instr.index 122 (.agg rowsV) (.int .i64 1)).run Tryz.prog w = .ok (.agg (rowOf 1)) w := by kernel_rfl
theorem index_rows2 (w : World) : (Instr.index 122 (.agg rowsV) (.int .i64 2)).run Tryz.prog w = .ok (.agg (rowOf 2)) w := by kernel_rfl
theorem index_rows3 (w : World) : (Instr.index 122 (.agg rowsV) (.int .i64 3)).run Tryz.prog w = .ok (.agg (rowOf 3)) w := by kernel_rfl
theorem index_rows4 (w : World) : (Instr.index 122 (.agg rowsV) (.int .i64 4)).run Tryz.prog w = .ok (.agg (rowOf 4)) w := by kernel_rfl
theorem index_rows5 (w : World) : (Instr.index 122 (.agg rowsV) (.int .i64 5)).run Tryz.prog w = .ok (.agg (rowOf 5)) w := by kernel_rfl

theorem of_0 (w : World) : Calls Tryz.prog 34 #[.int .i64 0] w fun e w' => e = .returned (.agg (rowOf 0)) ∧ Gr w w' := by
  have h := index_rows0
  simp only [rowOf] at h
  go_enter Tryz.func34, Tryz.ntmps34
  go_wp2_with (go_at_call 41; refine (rows_walk _).mono ?_; rintro e w' ⟨rfl, rfl⟩)
  exact bodyPost_ret (v := .agg (rowOf 0)) (by simp [results, Tryz.results34, go_sem, rowOf]) rfl ⟨rfl, by unfold Gr; go_grown⟩
theorem of_1 (w : World) : Calls Tryz.prog 34 #[.int .i64 1] w fun e w' => e = .returned (.agg (rowOf 1)) ∧ Gr w w' := by
  have h := index_rows1
  simp only [rowOf] at h
  go_enter Tryz.func34, Tryz.ntmps34
  go_wp2_with (go_at_call 41; refine (rows_walk _).mono ?_; rintro e w' ⟨rfl, rfl⟩)
  exact bodyPost_ret (v := .agg (rowOf 1)) (by simp [results, Tryz.results34, go_sem, rowOf]) rfl ⟨rfl, by unfold Gr; go_grown⟩
theorem of_2 (w : World) : Calls Tryz.prog 34 #[.int .i64 2] w fun e w' => e = .returned (.agg (rowOf 2)) ∧ Gr w w' := by
  have h := index_rows2
  simp only [rowOf] at h
  go_enter Tryz.func34, Tryz.ntmps34
  go_wp2_with (go_at_call 41; refine (rows_walk _).mono ?_; rintro e w' ⟨rfl, rfl⟩)
  exact bodyPost_ret (v := .agg (rowOf 2)) (by simp [results, Tryz.results34, go_sem, rowOf]) rfl ⟨rfl, by unfold Gr; go_grown⟩
theorem of_3 (w : World) : Calls Tryz.prog 34 #[.int .i64 3] w fun e w' => e = .returned (.agg (rowOf 3)) ∧ Gr w w' := by
  have h := index_rows3
  simp only [rowOf] at h
  go_enter Tryz.func34, Tryz.ntmps34
  go_wp2_with (go_at_call 41; refine (rows_walk _).mono ?_; rintro e w' ⟨rfl, rfl⟩)
  exact bodyPost_ret (v := .agg (rowOf 3)) (by simp [results, Tryz.results34, go_sem, rowOf]) rfl ⟨rfl, by unfold Gr; go_grown⟩
theorem of_4 (w : World) : Calls Tryz.prog 34 #[.int .i64 4] w fun e w' => e = .returned (.agg (rowOf 4)) ∧ Gr w w' := by
  have h := index_rows4
  simp only [rowOf] at h
  go_enter Tryz.func34, Tryz.ntmps34
  go_wp2_with (go_at_call 41; refine (rows_walk _).mono ?_; rintro e w' ⟨rfl, rfl⟩)
  exact bodyPost_ret (v := .agg (rowOf 4)) (by simp [results, Tryz.results34, go_sem, rowOf]) rfl ⟨rfl, by unfold Gr; go_grown⟩
theorem of_5 (w : World) : Calls Tryz.prog 34 #[.int .i64 5] w fun e w' => e = .returned (.agg (rowOf 5)) ∧ Gr w w' := by
  have h := index_rows5
  simp only [rowOf] at h
  go_enter Tryz.func34, Tryz.ntmps34
  go_wp2_with (go_at_call 41; refine (rows_walk _).mono ?_; rintro e w' ⟨rfl, rfl⟩)
  exact bodyPost_ret (v := .agg (rowOf 5)) (by simp [results, Tryz.results34, go_sem, rowOf]) rfl ⟨rfl, by unfold Gr; go_grown⟩
theorem of_big (k : Int) (hk : 6 ≤ k) (w : World) : Calls Tryz.prog 34 #[.int .i64 k] w fun e w' => e = .returned (.agg (rowOf 0)) ∧ Gr w w' := by
  go_enter Tryz.func34, Tryz.ntmps34
  go_wp2_with (go_at_call 41; refine (rows_walk _).mono ?_; rintro e w' ⟨rfl, rfl⟩)
  exact bodyPost_ret (v := .agg (rowOf 0)) (by simp [results, Tryz.results34, go_sem, rowOf]) rfl ⟨rfl, by unfold Gr; go_grown⟩
theorem of_walk (k : Nat) (w : World) : Calls Tryz.prog 34 #[.int .i64 k] w fun e w' => e = .returned (.agg (rowOf k)) ∧ Gr w w' := by
  match k with
  | 0 => exact of_0 w
  | 1 => exact of_1 w
  | 2 => exact of_2 w
  | 3 => exact of_3 w
  | 4 => exact of_4 w
  | 5 => exact of_5 w
  | k + 6 =>
    rw [rowOf_big (k + 6) (by omega)]
    exact of_big _ (by omega) w

theorem least_field (s : ByteArray) (a b : Int) (c : Bool) (w : World) : (Instr.field 114 (.agg #[.string s, .int .i64 a, .int .i64 b, .bool c]) 1).run Tryz.prog w = .ok (.int .i64 a) w := by kernel_rfl
theorem rowOf_form (k : Nat) : ∃ s b c, rowOf k = #[.string s, .int .i64 (leastOf k : Nat), .int .i64 (b : Nat), .bool c] ∧ (c = true → b = 4096 ∧ ∀ e, limitOf e k = if e then 65535 else 4096) ∧ (c = false → ∀ e, limitOf e k = b) := by
  match k with
  | 0 => exact ⟨_, 0, _, rfl, fun h => (by cases h), fun _ _ => rfl⟩
  | 1 => exact ⟨_, 4096, _, rfl, fun h => (by cases h), fun _ _ => rfl⟩
  | 2 => exact ⟨_, 4096, _, rfl, fun _ => ⟨rfl, fun _ => rfl⟩, fun h => (by cases h)⟩
  | 3 => exact ⟨_, 4096, _, rfl, fun _ => ⟨rfl, fun _ => rfl⟩, fun h => (by cases h)⟩
  | 4 => exact ⟨_, 19, _, rfl, fun h => (by cases h), fun _ _ => rfl⟩
  | 5 => exact ⟨_, 23, _, rfl, fun h => (by cases h), fun _ _ => rfl⟩
  | k + 6 => exact ⟨_, 0, _, rfl, fun h => (by cases h), fun _ _ => rfl⟩
theorem least_walk (k : Nat) (w : World) : Calls Tryz.prog 28 #[.int .i64 k] w fun e w' => e = .returned (.int .i64 (leastOf k : Nat)) ∧ Gr w w' := by
  obtain ⟨s, b, c, hr, _, _⟩ := rowOf_form k
  have hf := least_field s (leastOf k : Nat) (b : Nat) c
  have H := Lib.hid (of_walk k)
  rw [hr] at H
  clear hr
  go_enter Tryz.func28, Tryz.ntmps28
  go_wp2_with (go_at_call 34; refine (H.out _).mono ?_; rintro e w' ⟨rfl, hg⟩)
  go_ret
  exact ⟨rfl, hg⟩
def optsV (b0 b1 b2 b3 b4 b5 : Bool) : Value := .agg #[.bool b0, .bool b1, .bool b2, .bool b3, .bool b4, .bool b5]
theorem most_walk (b0 b1 b2 b3 b4 b5 : Bool) (w : World) : Calls Tryz.prog 35 #[.agg #[.bool b0, .bool b1, .bool b2, .bool b3, .bool b4, .bool b5]] w fun e w' => e = .returned (.int .i64 ((if b1 then 65535 else 4096 : Nat) : Nat)) ∧ Gr w w' := by
  cases b1
  · go_enter Tryz.func35, Tryz.ntmps35
    go_wp2
    go_ret
    exact ⟨rfl, by unfold Gr; go_grown⟩
  · go_enter Tryz.func35, Tryz.ntmps35
    go_wp2
    go_ret
    exact ⟨rfl, by unfold Gr; go_grown⟩
theorem limit_walk (k : Nat) (b0 b1 b2 b3 b4 b5 : Bool) (w : World) : Calls Tryz.prog 29 #[.agg #[.bool b0, .bool b1, .bool b2, .bool b3, .bool b4, .bool b5], .int .i64 k] w fun e w' => e = .returned (.int .i64 (limitOf b1 k : Nat)) ∧ Gr w w' := by
  obtain ⟨s, b, c, hr, ht, hf⟩ := rowOf_form k
  have H := Lib.hid (of_walk k)
  rw [hr] at H
  clear hr
  cases c with
  | true =>
    have e1 := Lib.hid ((ht rfl).2 b1)
    clear ht hf
    cases b1
    all_goals
      go_enter Tryz.func29, Tryz.ntmps29
      go_wp2_with (first
        | (go_at_call 34; refine (H.out _).mono ?_; rintro e w1 ⟨rfl, hg⟩; obtain ⟨hcl, hfr⟩ := gcell hg; have hz : w.heap.size < w1.heap.size := by have := hg.size; simp at this; omega)
        | (go_at_call 35; refine (most_walk b0 _ b2 b3 b4 b5 _).mono ?_; rintro e w2 ⟨rfl, hc⟩))
      go_ret
      rw [e1.out]
      exact ⟨rfl, Gr.trans (by unfold Gr; go_grown) (Gr.trans hg (Gr.trans (by unfold Gr; go_grown) hc))⟩
  | false =>
    have e1 := Lib.hid (hf rfl b1)
    clear ht hf
    go_enter Tryz.func29, Tryz.ntmps29
    go_wp2_with (go_at_call 34; refine (H.out _).mono ?_; rintro e w1 ⟨rfl, hg⟩; obtain ⟨hcl, hfr⟩ := gcell hg; have hz : w.heap.size < w1.heap.size := by have := hg.size; simp at this; omega)
    go_ret
    rw [e1.out]
    exact ⟨rfl, Gr.trans (by unfold Gr; go_grown) (Gr.trans hg (by unfold Gr; go_grown))⟩
end Go.Proofs.YthkllbjfajfidaaGreat
