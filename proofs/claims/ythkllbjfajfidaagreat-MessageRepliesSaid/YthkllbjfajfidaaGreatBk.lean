/- Walks of the law's Back. -/
import Derived.Test.YthkllbjfajfidaaGreatMs
import Derived.Test.YthkllbjfajfidaaGreatRa
namespace Go.Proofs.YthkllbjfajfidaaGreat
open Go.RowKit

set_option maxRecDepth 100000
set_option maxHeartbeats 2000000
set_option linter.unusedSimpArgs false

theorem back16 (w : World) : Calls Tryz.prog 27 #[.slice none 0 0] w fun e w' => e = .returned (.slice none 0 0) ∧ Gr w w' := by
  go_enter Tryz.func27, Tryz.ntmps27
  go_wp2
  refine wp_loop_rounds 1 ?_
  rw [rounds_succ]
  go_wp2
  go_ret
  exact ⟨rfl, Gr.refl _⟩
theorem back17 (w : World) : Calls Tryz.prog 17 #[.agg #[.int .u32 0, .int .i64 0, .int .u32 0, .slice none 0 0]] w fun e w' => e = .returned (.agg #[.int .u32 0, .int .i64 0, .int .u32 0, .slice none 0 0]) ∧ Gr w w' := by
  go_enter Tryz.func17, Tryz.ntmps17
  go_wp2
  have kA := Lib.hid ((Blk.new w 31 #[.int .u32 0, .int .i64 0, .int .u32 0, .slice none 0 0]).alloc (.cells #[.int .u32 0, .int .i64 0, .int .u32 0, .slice none 0 0] 46))
  have kR := Lib.hid (Blk.nat (w.alloc (.cells #[.int .u32 0, .int .i64 0, .int .u32 0, .slice none 0 0] 31)) (w.heap.size + 1) (by simp) 46 #[.int .u32 0, .int .i64 0, .int .u32 0, .slice none 0 0])
  refine wp_region_upto (by kernel_rfl) 10 (Nat.le_of_ble_eq_true (by kernel_rfl)) [0, 1, 2, 3, 4, 5, 6, 7, 8, 9] rfl [
      (fun v _ => v = .pointer (some ⟨w.heap.size, 0, none⟩)),
    (fun v _ => v = .int .u32 0),
    (fun v _ => v = .pointer (some ⟨w.heap.size, 1, none⟩)),
    (fun v _ => v = .int .i64 0),
    (fun v _ => v = .pointer (some ⟨w.heap.size, 2, none⟩)),
    (fun v _ => v = .int .u32 0),
    (fun v _ => v = .pointer (some ⟨w.heap.size, 3, none⟩)),
    (fun v _ => v = .slice none 0 0),
    (fun v _ => v = .slice none 0 0),
    (fun v _ => v = .agg #[.int .u32 0, .int .i64 0, .int .u32 0, .slice none 0 0])] 2 [3, 4, 5, 6, 7, 8, 9, 10, 11, 12] (by kernel_rfl) ?last ?steps ?fin
  case last =>
    refine lasting.cons ?_ (lasting.cons ?_ (lasting.cons ?_ (lasting.cons ?_ (lasting.cons ?_ (lasting.cons ?_ (lasting.cons ?_ (lasting.cons ?_ (lasting.cons ?_ (lasting.cons ?_ (lasting.nil))))))))))
    · exact fun v a b h k => h
    · exact fun v a b h k => h
    · exact fun v a b h k => h
    · exact fun v a b h k => h
    · exact fun v a b h k => h
    · exact fun v a b h k => h
    · exact fun v a b h k => h
    · exact fun v a b h k => h
    · exact fun v a b h k => h
    · exact fun v a b h k => h
  case steps =>
    refine steps_cons rfl ?_ (steps_cons rfl ?_ (steps_cons rfl ?_ (steps_cons rfl ?_ (steps_cons rfl ?_ (steps_cons rfl ?_ (steps_cons rfl ?_ (steps_cons rfl ?_ (steps_cons rfl ?_ (steps_cons rfl ?_ (steps_nil))))))))))
    · intro vals W hg hf K hK
      simp only [fillA, fillL, List.contains_cons, List.contains_nil, Nat.reduceBEq, Bool.or_false, Bool.false_or, Bool.true_or, Bool.or_true, Bool.false_eq_true, if_false, if_true, Nat.reduceAdd] at hK ⊢
      go_simp
      exact hK _ _ (Gr.refl _) rfl
    · intro vals W hg hf K hK
      have e3 : vals 3 = .pointer (some ⟨w.heap.size, 0, none⟩) := hf 0 (by kernel_rfl)
      have q : W.cell? ⟨w.heap.size, 0, none⟩ = some (.int .u32 0) := (kA.out.below hg kA.out.lt).cell 0
      simp only [fillA, fillL, List.contains_cons, List.contains_nil, Nat.reduceBEq, Bool.or_false, Bool.false_or, Bool.true_or, Bool.or_true, Bool.false_eq_true, if_false, if_true, Nat.reduceAdd, e3] at hK ⊢
      go_simp
      exact hK _ _ (Gr.refl _) rfl
    · intro vals W hg hf K hK
      simp only [fillA, fillL, List.contains_cons, List.contains_nil, Nat.reduceBEq, Bool.or_false, Bool.false_or, Bool.true_or, Bool.or_true, Bool.false_eq_true, if_false, if_true, Nat.reduceAdd] at hK ⊢
      go_simp
      exact hK _ _ (Gr.refl _) rfl
    · intro vals W hg hf K hK
      have e5 : vals 5 = .pointer (some ⟨w.heap.size, 1, none⟩) := hf 2 (by kernel_rfl)
      have q : W.cell? ⟨w.heap.size, 1, none⟩ = some (.int .i64 0) := (kA.out.below hg kA.out.lt).cell 1
      simp only [fillA, fillL, List.contains_cons, List.contains_nil, Nat.reduceBEq, Bool.or_false, Bool.false_or, Bool.true_or, Bool.or_true, Bool.false_eq_true, if_false, if_true, Nat.reduceAdd, e5] at hK ⊢
      go_simp
      exact hK _ _ (Gr.refl _) rfl
    · intro vals W hg hf K hK
      simp only [fillA, fillL, List.contains_cons, List.contains_nil, Nat.reduceBEq, Bool.or_false, Bool.false_or, Bool.true_or, Bool.or_true, Bool.false_eq_true, if_false, if_true, Nat.reduceAdd] at hK ⊢
      go_simp
      exact hK _ _ (Gr.refl _) rfl
    · intro vals W hg hf K hK
      have e7 : vals 7 = .pointer (some ⟨w.heap.size, 2, none⟩) := hf 4 (by kernel_rfl)
      have q : W.cell? ⟨w.heap.size, 2, none⟩ = some (.int .u32 0) := (kA.out.below hg kA.out.lt).cell 2
      simp only [fillA, fillL, List.contains_cons, List.contains_nil, Nat.reduceBEq, Bool.or_false, Bool.false_or, Bool.true_or, Bool.or_true, Bool.false_eq_true, if_false, if_true, Nat.reduceAdd, e7] at hK ⊢
      go_simp
      exact hK _ _ (Gr.refl _) rfl
    · intro vals W hg hf K hK
      simp only [fillA, fillL, List.contains_cons, List.contains_nil, Nat.reduceBEq, Bool.or_false, Bool.false_or, Bool.true_or, Bool.or_true, Bool.false_eq_true, if_false, if_true, Nat.reduceAdd] at hK ⊢
      go_simp
      exact hK _ _ (Gr.refl _) rfl
    · intro vals W hg hf K hK
      have e9 : vals 9 = .pointer (some ⟨w.heap.size, 3, none⟩) := hf 6 (by kernel_rfl)
      have q : W.cell? ⟨w.heap.size, 3, none⟩ = some (.slice none 0 0) := (kA.out.below hg kA.out.lt).cell 3
      simp only [fillA, fillL, List.contains_cons, List.contains_nil, Nat.reduceBEq, Bool.or_false, Bool.false_or, Bool.true_or, Bool.or_true, Bool.false_eq_true, if_false, if_true, Nat.reduceAdd, e9] at hK ⊢
      go_simp
      exact hK _ _ (Gr.refl _) rfl
    · intro vals W hg hf K hK
      have e10 : vals 10 = .slice none 0 0 := hf 7 (by kernel_rfl)
      simp only [fillA, fillL, List.contains_cons, List.contains_nil, Nat.reduceBEq, Bool.or_false, Bool.false_or, Bool.true_or, Bool.or_true, Bool.false_eq_true, if_false, if_true, Nat.reduceAdd, e10] at hK ⊢
      go_simp
      refine (back16 _).mono ?_
      rintro e w' ⟨rfl, hgw⟩
      go_simp
      exact hK _ _ hgw rfl
    · intro vals W hg hf K hK
      have e4 : vals 4 = .int .u32 0 := hf 1 (by kernel_rfl)
      have e6 : vals 6 = .int .i64 0 := hf 3 (by kernel_rfl)
      have e8 : vals 8 = .int .u32 0 := hf 5 (by kernel_rfl)
      have e11 : vals 11 = .slice none 0 0 := hf 8 (by kernel_rfl)
      simp only [fillA, fillL, List.contains_cons, List.contains_nil, Nat.reduceBEq, Bool.or_false, Bool.false_or, Bool.true_or, Bool.or_true, Bool.false_eq_true, if_false, if_true, Nat.reduceAdd, e4, e6, e8, e11] at hK ⊢
      go_simp
      exact hK _ _ (Gr.refl _) rfl
  case fin =>
    intro vals W hg hf
    have e12 : vals 12 = .agg #[.int .u32 0, .int .i64 0, .int .u32 0, .slice none 0 0] := hf 9 (by kernel_rfl)
    simp only [fillA, fillL, List.contains_cons, List.contains_nil, Nat.reduceBEq, Bool.or_false, Bool.false_or, Bool.true_or, Bool.or_true, Bool.false_eq_true, if_false, if_true, Nat.reduceAdd, e12]
    have kW := kR.out.below hg kR.out.lt
    refine any_store (i := 10) (by kernel_rfl) rfl rfl 46 (.tmp 2) (.tmp 12) rfl rfl (w.heap.size + 1) #[.int .u32 0, .int .i64 0, .int .u32 0, .slice none 0 0] (by rfl) (by rfl) 46 _ kW (by as_aux_lemma => kernel_rfl) (by as_aux_lemma => kernel_rfl) (by as_aux_lemma => kernel_rfl) ?_
    refine wpAny_done (by kernel_rfl) ?_ _
    have R2 := Lib.hid (kW.setRow (cs := #[.int .u32 0, .int .i64 0, .int .u32 0, .slice none 0 0]))
    have G2 := Lib.hid (below_setRow (Gr.trans (show Gr w _ from (by unfold Gr; go_grown)) hg) (show w.heap.size ≤ w.heap.size + 1 by omega) #[.int .u32 0, .int .i64 0, .int .u32 0, .slice none 0 0])
    clear hg hf kW
    go_wp2
    refine bodyPost_ret (v := .agg #[.int .u32 0, .int .i64 0, .int .u32 0, .slice none 0 0])
      (results_cell1 Tryz.results17 _ _ ⟨w.heap.size + 1, 0, none⟩ _ rfl (run_loadVar_row _ _ _ _ _ _ _ R2.out Tryz.underlying46 rfl (by as_aux_lemma => kernel_rfl))) rfl ⟨rfl, G2.out⟩

theorem back20 (k c s : Int) (B : Option Addr) (n cp : Nat) (w : World) : Calls Tryz.prog 8 #[.agg (msgC k 0 0 0 (.slice none 0 0) c s (.slice B n cp))] w fun e w' => e = .returned (.agg (msgC k 0 0 0 (.slice none 0 0) c s (.slice B n cp))) ∧ Gr w w' := by
  have hdef : msgC k 0 0 0 (.slice none 0 0) c s (.slice B n cp) = #[.int .i64 k, .int .u32 0, .int .i64 0, .int .u32 0, .slice none 0 0, .slice none 0 0, .slice none 0 0, .slice none 0 0, .int .i64 c, .int .i64 s, .slice B n cp, .int .i64 0, .int .i64 0, .int .i64 0] := rfl
  have h0def : msg0 = #[.int .i64 0, .int .u32 0, .int .i64 0, .int .u32 0, .slice none 0 0, .slice none 0 0, .slice none 0 0, .slice none 0 0, .int .i64 0, .int .i64 0, .slice none 0 0, .int .i64 0, .int .i64 0, .int .i64 0] := rfl
  have kA := Lib.hid ((Blk.new w 41 (msgC k 0 0 0 (.slice none 0 0) c s (.slice B n cp))).alloc (.cells msg0 51))
  have kR := Lib.hid (Blk.nat (w.alloc (.cells (msgC k 0 0 0 (.slice none 0 0) c s (.slice B n cp)) 41)) (w.heap.size + 1) (by simp) 51 msg0)
  rw [hdef, h0def] at kA kR
  rw [hdef]
  clear hdef h0def
  go_enter Tryz.func8, Tryz.ntmps8
  go_wp2
  refine wp_region_upto (by kernel_rfl) 12 (Nat.le_of_ble_eq_true (by kernel_rfl)) [0, 1, 2, 3, 4, 5, 6, 7, 8, 9, 10, 11] rfl [
      (fun v _ => v = .pointer (some ⟨w.heap.size, 0, none⟩)),
    (fun v _ => v = .int .i64 k),
    (fun v _ => v = .pointer (some ⟨w.heap.size, 1, none⟩)),
    (fun v _ => v = .agg #[.int .u32 0, .int .i64 0, .int .u32 0, .slice none 0 0]),
    (fun v _ => v = .agg #[.int .u32 0, .int .i64 0, .int .u32 0, .slice none 0 0]),
    (fun v _ => v = .pointer (some ⟨w.heap.size, 5, none⟩)),
    (fun v _ => v = .agg #[.slice none 0 0, .slice none 0 0, .slice none 0 0]),
    (fun v _ => v = .pointer (some ⟨w.heap.size, 8, none⟩)),
    (fun v _ => v = .agg #[.int .i64 c, .int .i64 s, .slice B n cp]),
    (fun v _ => v = .pointer (some ⟨w.heap.size, 11, none⟩)),
    (fun v _ => v = .agg #[.int .i64 0, .int .i64 0, .int .i64 0]),
    (fun v _ => v = .agg #[.int .i64 k, .int .u32 0, .int .i64 0, .int .u32 0, .slice none 0 0, .slice none 0 0, .slice none 0 0, .slice none 0 0, .int .i64 c, .int .i64 s, .slice B n cp, .int .i64 0, .int .i64 0, .int .i64 0])] 2 [3, 4, 5, 6, 7, 8, 9, 10, 11, 12, 13, 14] (by kernel_rfl) ?last ?steps ?fin
  case last =>
    refine lasting.cons ?_ (lasting.cons ?_ (lasting.cons ?_ (lasting.cons ?_ (lasting.cons ?_ (lasting.cons ?_ (lasting.cons ?_ (lasting.cons ?_ (lasting.cons ?_ (lasting.cons ?_ (lasting.cons ?_ (lasting.cons ?_ (lasting.nil))))))))))))
    · exact fun v a b h k => h
    · exact fun v a b h k => h
    · exact fun v a b h k => h
    · exact fun v a b h k => h
    · exact fun v a b h k => h
    · exact fun v a b h k => h
    · exact fun v a b h k => h
    · exact fun v a b h k => h
    · exact fun v a b h k => h
    · exact fun v a b h k => h
    · exact fun v a b h k => h
    · exact fun v a b h k => h
  case steps =>
    refine steps_cons rfl ?_ (steps_cons rfl ?_ (steps_cons rfl ?_ (steps_cons rfl ?_ (steps_cons rfl ?_ (steps_cons rfl ?_ (steps_cons rfl ?_ (steps_cons rfl ?_ (steps_cons rfl ?_ (steps_cons rfl ?_ (steps_cons rfl ?_ (steps_cons rfl ?_ (steps_nil))))))))))))
    · intro vals W hg hf K hK
      simp only [fillA, fillL, List.contains_cons, List.contains_nil, Nat.reduceBEq, Bool.or_false, Bool.false_or, Bool.true_or, Bool.or_true, Bool.false_eq_true, if_false, if_true, Nat.reduceAdd] at hK ⊢
      go_simp
      exact hK _ _ (Gr.refl _) rfl
    · intro vals W hg hf K hK
      have e3 : vals 3 = .pointer (some ⟨w.heap.size, 0, none⟩) := hf 0 (by kernel_rfl)
      have q0 : W.cell? ⟨w.heap.size, 0, none⟩ = some (.int .i64 k) := (kA.out.below hg kA.out.lt).cell 0
      simp only [fillA, fillL, List.contains_cons, List.contains_nil, Nat.reduceBEq, Bool.or_false, Bool.false_or, Bool.true_or, Bool.or_true, Bool.false_eq_true, if_false, if_true, Nat.reduceAdd, e3] at hK ⊢
      go_simp
      exact hK _ _ (Gr.refl _) rfl
    · intro vals W hg hf K hK
      simp only [fillA, fillL, List.contains_cons, List.contains_nil, Nat.reduceBEq, Bool.or_false, Bool.false_or, Bool.true_or, Bool.or_true, Bool.false_eq_true, if_false, if_true, Nat.reduceAdd] at hK ⊢
      go_simp
      exact hK _ _ (Gr.refl _) rfl
    · intro vals W hg hf K hK
      have e5 : vals 5 = .pointer (some ⟨w.heap.size, 1, none⟩) := hf 2 (by kernel_rfl)
      have q1 : W.cell? ⟨w.heap.size, 1, none⟩ = some (.int .u32 0) := (kA.out.below hg kA.out.lt).cell 1
      have q2 : W.cell? ⟨w.heap.size, 2, none⟩ = some (.int .i64 0) := (kA.out.below hg kA.out.lt).cell 2
      have q3 : W.cell? ⟨w.heap.size, 3, none⟩ = some (.int .u32 0) := (kA.out.below hg kA.out.lt).cell 3
      have q4 : W.cell? ⟨w.heap.size, 4, none⟩ = some (.slice none 0 0) := (kA.out.below hg kA.out.lt).cell 4
      simp only [fillA, fillL, List.contains_cons, List.contains_nil, Nat.reduceBEq, Bool.or_false, Bool.false_or, Bool.true_or, Bool.or_true, Bool.false_eq_true, if_false, if_true, Nat.reduceAdd, e5] at hK ⊢
      go_simp
      exact hK _ _ (Gr.refl _) rfl
    · intro vals W hg hf K hK
      have e6 : vals 6 = .agg #[.int .u32 0, .int .i64 0, .int .u32 0, .slice none 0 0] := hf 3 (by kernel_rfl)
      simp only [fillA, fillL, List.contains_cons, List.contains_nil, Nat.reduceBEq, Bool.or_false, Bool.false_or, Bool.true_or, Bool.or_true, Bool.false_eq_true, if_false, if_true, Nat.reduceAdd, e6] at hK ⊢
      go_simp
      refine (back17 _).mono ?_
      rintro e w' ⟨rfl, hgw⟩
      go_simp
      exact hK _ _ hgw rfl
    · intro vals W hg hf K hK
      simp only [fillA, fillL, List.contains_cons, List.contains_nil, Nat.reduceBEq, Bool.or_false, Bool.false_or, Bool.true_or, Bool.or_true, Bool.false_eq_true, if_false, if_true, Nat.reduceAdd] at hK ⊢
      go_simp
      exact hK _ _ (Gr.refl _) rfl
    · intro vals W hg hf K hK
      have e8 : vals 8 = .pointer (some ⟨w.heap.size, 5, none⟩) := hf 5 (by kernel_rfl)
      have q5 : W.cell? ⟨w.heap.size, 5, none⟩ = some (.slice none 0 0) := (kA.out.below hg kA.out.lt).cell 5
      have q6 : W.cell? ⟨w.heap.size, 6, none⟩ = some (.slice none 0 0) := (kA.out.below hg kA.out.lt).cell 6
      have q7 : W.cell? ⟨w.heap.size, 7, none⟩ = some (.slice none 0 0) := (kA.out.below hg kA.out.lt).cell 7
      simp only [fillA, fillL, List.contains_cons, List.contains_nil, Nat.reduceBEq, Bool.or_false, Bool.false_or, Bool.true_or, Bool.or_true, Bool.false_eq_true, if_false, if_true, Nat.reduceAdd, e8] at hK ⊢
      go_simp
      exact hK _ _ (Gr.refl _) rfl
    · intro vals W hg hf K hK
      simp only [fillA, fillL, List.contains_cons, List.contains_nil, Nat.reduceBEq, Bool.or_false, Bool.false_or, Bool.true_or, Bool.or_true, Bool.false_eq_true, if_false, if_true, Nat.reduceAdd] at hK ⊢
      go_simp
      exact hK _ _ (Gr.refl _) rfl
    · intro vals W hg hf K hK
      have e10 : vals 10 = .pointer (some ⟨w.heap.size, 8, none⟩) := hf 7 (by kernel_rfl)
      have q8 : W.cell? ⟨w.heap.size, 8, none⟩ = some (.int .i64 c) := (kA.out.below hg kA.out.lt).cell 8
      have q9 : W.cell? ⟨w.heap.size, 9, none⟩ = some (.int .i64 s) := (kA.out.below hg kA.out.lt).cell 9
      have q10 : W.cell? ⟨w.heap.size, 10, none⟩ = some (.slice B n cp) := (kA.out.below hg kA.out.lt).cell 10
      simp only [fillA, fillL, List.contains_cons, List.contains_nil, Nat.reduceBEq, Bool.or_false, Bool.false_or, Bool.true_or, Bool.or_true, Bool.false_eq_true, if_false, if_true, Nat.reduceAdd, e10] at hK ⊢
      go_simp
      exact hK _ _ (Gr.refl _) rfl
    · intro vals W hg hf K hK
      simp only [fillA, fillL, List.contains_cons, List.contains_nil, Nat.reduceBEq, Bool.or_false, Bool.false_or, Bool.true_or, Bool.or_true, Bool.false_eq_true, if_false, if_true, Nat.reduceAdd] at hK ⊢
      go_simp
      exact hK _ _ (Gr.refl _) rfl
    · intro vals W hg hf K hK
      have e12 : vals 12 = .pointer (some ⟨w.heap.size, 11, none⟩) := hf 9 (by kernel_rfl)
      have q11 : W.cell? ⟨w.heap.size, 11, none⟩ = some (.int .i64 0) := (kA.out.below hg kA.out.lt).cell 11
      have q12 : W.cell? ⟨w.heap.size, 12, none⟩ = some (.int .i64 0) := (kA.out.below hg kA.out.lt).cell 12
      have q13 : W.cell? ⟨w.heap.size, 13, none⟩ = some (.int .i64 0) := (kA.out.below hg kA.out.lt).cell 13
      simp only [fillA, fillL, List.contains_cons, List.contains_nil, Nat.reduceBEq, Bool.or_false, Bool.false_or, Bool.true_or, Bool.or_true, Bool.false_eq_true, if_false, if_true, Nat.reduceAdd, e12] at hK ⊢
      go_simp
      exact hK _ _ (Gr.refl _) rfl
    · intro vals W hg hf K hK
      have e4 : vals 4 = .int .i64 k := hf 1 (by kernel_rfl)
      have e7 : vals 7 = .agg #[.int .u32 0, .int .i64 0, .int .u32 0, .slice none 0 0] := hf 4 (by kernel_rfl)
      have e9 : vals 9 = .agg #[.slice none 0 0, .slice none 0 0, .slice none 0 0] := hf 6 (by kernel_rfl)
      have e11 : vals 11 = .agg #[.int .i64 c, .int .i64 s, .slice B n cp] := hf 8 (by kernel_rfl)
      have e13 : vals 13 = .agg #[.int .i64 0, .int .i64 0, .int .i64 0] := hf 10 (by kernel_rfl)
      simp only [fillA, fillL, List.contains_cons, List.contains_nil, Nat.reduceBEq, Bool.or_false, Bool.false_or, Bool.true_or, Bool.or_true, Bool.false_eq_true, if_false, if_true, Nat.reduceAdd, e4, e7, e9, e11, e13] at hK ⊢
      go_simp
      exact hK _ _ (Gr.refl _) rfl
  case fin =>
    intro vals W hg hf
    have e14 : vals 14 = .agg #[.int .i64 k, .int .u32 0, .int .i64 0, .int .u32 0, .slice none 0 0, .slice none 0 0, .slice none 0 0, .slice none 0 0, .int .i64 c, .int .i64 s, .slice B n cp, .int .i64 0, .int .i64 0, .int .i64 0] := hf 11 (by kernel_rfl)
    simp only [fillA, fillL, List.contains_cons, List.contains_nil, Nat.reduceBEq, Bool.or_false, Bool.false_or, Bool.true_or, Bool.or_true, Bool.false_eq_true, if_false, if_true, Nat.reduceAdd, e14]
    have kW := kR.out.below hg kR.out.lt
    refine any_store (i := 12) (by kernel_rfl) rfl rfl 51 (.tmp 2) (.tmp 14) rfl rfl (w.heap.size + 1) #[.int .i64 k, .int .u32 0, .int .i64 0, .int .u32 0, .slice none 0 0, .slice none 0 0, .slice none 0 0, .slice none 0 0, .int .i64 c, .int .i64 s, .slice B n cp, .int .i64 0, .int .i64 0, .int .i64 0] (by rfl) (by rfl) 51 _ kW (by as_aux_lemma => kernel_rfl) (by as_aux_lemma => kernel_rfl) (by as_aux_lemma => kernel_rfl) ?_
    refine wpAny_done (by kernel_rfl) ?_ _
    have R2 := Lib.hid (kW.setRow (cs := #[.int .i64 k, .int .u32 0, .int .i64 0, .int .u32 0, .slice none 0 0, .slice none 0 0, .slice none 0 0, .slice none 0 0, .int .i64 c, .int .i64 s, .slice B n cp, .int .i64 0, .int .i64 0, .int .i64 0]))
    have G2 := Lib.hid (below_setRow (Gr.trans (show Gr w _ from (by unfold Gr; go_grown)) hg) (show w.heap.size ≤ w.heap.size + 1 by omega) #[.int .i64 k, .int .u32 0, .int .i64 0, .int .u32 0, .slice none 0 0, .slice none 0 0, .slice none 0 0, .slice none 0 0, .int .i64 c, .int .i64 s, .slice B n cp, .int .i64 0, .int .i64 0, .int .i64 0])
    clear hg hf kW
    go_wp2
    refine bodyPost_ret (v := .agg #[.int .i64 k, .int .u32 0, .int .i64 0, .int .u32 0, .slice none 0 0, .slice none 0 0, .slice none 0 0, .slice none 0 0, .int .i64 c, .int .i64 s, .slice B n cp, .int .i64 0, .int .i64 0, .int .i64 0])
      (results_cell1 Tryz.results8 _ _ ⟨w.heap.size + 1, 0, none⟩ _ rfl (run_loadVar_row _ _ _ _ _ _ _ R2.out Tryz.underlying51 rfl (by as_aux_lemma => kernel_rfl))) rfl ⟨rfl, G2.out⟩
end Go.Proofs.YthkllbjfajfidaaGreat
