/- The walk of the reference's Of. -/
import Derived.Test.YthkllbjfajfidaaGreatNg
namespace Go.Proofs.YthkllbjfajfidaaGreat
open Go.RowKit

set_option maxRecDepth 100000
set_option maxHeartbeats 1000000
set_option linter.unusedSimpArgs false

theorem rof_note_yes (o0 ext o2 o3 o4 o5 : Bool) (c s a : Int) (A : Option Addr) (cap : Nat) (l : List UInt8) (hc : 1 ≤ c) (hc6 : c ≤ 6) (hs : 0 ≤ s) (hs2 : s ≤ 255) (ha : 0 ≤ a) (hl : l.length ≤ 4000) (w : World) (hb : IsB w (.slice A l.length cap) l) :
    Calls Tryz.prog 13 #[.agg #[.bool o0, .bool ext, .bool o2, .bool o3, .bool o4, .bool o5], .agg #[.int .i64 4, .int .i64 c, .int .i64 s, .slice A l.length cap, .int .i64 a]] w fun e w' => ∃ B cap', e = .returned (.tuple #[.agg #[.int .i64 c, .int .i64 s, .slice B l.length cap'], .bool true]) ∧ IsB w' (.slice B l.length cap') l ∧ Gr w w' := by
  have hcap : (l.length : Int) ≤ (cap : Int) := by have := hb.cap; omega
  have hB := Lib.hid hb
  clear hb
  have hl' : (l.length : Int) ≤ 4000 := by omega
  go_enter Tryz.func13, Tryz.ntmps13
  go_wp2_with (fail)
  refine (rproper_yes c s a A l.length cap hc hc6 hs hs2 ha _).mono ?_
  rintro e w1 ⟨rfl, g1⟩
  have kV := Lib.hid (Blk.below ((Blk.nat (w.alloc (.cells #[.bool o0, .bool ext, .bool o2, .bool o3, .bool o4, .bool o5] 23)) (w.heap.size + 1) (by simp) 26 #[.int .i64 4, .int .i64 c, .int .i64 s, .slice A l.length cap, .int .i64 a]).alloc _) g1 (by simp))
  have k1 : w1.cell? ⟨w.heap.size + 1, 1, none⟩ = some (.int .i64 c) := kV.out.cell 1
  have k2 : w1.cell? ⟨w.heap.size + 1, 2, none⟩ = some (.int .i64 s) := kV.out.cell 2
  have k3 : w1.cell? ⟨w.heap.size + 1, 3, none⟩ = some (.slice A l.length cap) := kV.out.cell 3
  have kR := Lib.hid (Blk.below (Blk.nat ((w.alloc (.cells #[.bool o0, .bool ext, .bool o2, .bool o3, .bool o4, .bool o5] 23)).alloc (.cells #[.int .i64 4, .int .i64 c, .int .i64 s, .slice A l.length cap, .int .i64 a] 26)) (w.heap.size + 1 + 1) (by simp) 48 #[.int .i64 0, .int .i64 0, .slice none 0 0]) g1 (by simp))
  obtain ⟨hcl, hfr⟩ := gcell g1
  have hz : w.heap.size + 2 < w1.heap.size := by have := g1.size; simp at this; omega
  have G1 := Lib.hid (show Gr w w1 from Gr.trans (by unfold Gr; go_grown) g1)
  clear g1
  cases ext
  · go_wp2_with (fail)
    clear hcl hfr
    refine wp_region_upto (by kernel_rfl) 13 (Nat.le_of_ble_eq_true (by kernel_rfl)) [0, 1, 2, 3, 4, 5, 6, 7, 8, 9, 10, 11, 12] rfl [
        (fun v _ => v = .pointer (some ⟨w.heap.size + 1, 1, none⟩)),
    (fun v _ => v = .int .i64 c),
    (fun v _ => v = .pointer (some ⟨w.heap.size + 1, 2, none⟩)),
    (fun v _ => v = .int .i64 s),
    (fun v _ => v = .pointer (some ⟨w.heap.size + 1, 3, none⟩)),
    (fun v _ => v = .slice A l.length cap),
    (fun v _ => v = .pointer (some ⟨w.heap.size + 1, 3, none⟩)),
    (fun v _ => v = .slice A l.length cap),
    (fun v _ => v = .int .i64 l.length),
    (fun v _ => v = .int .i64 4075),
    (fun v _ => v = .int .i64 l.length),
    (fun v _ => v = .slice A l.length cap),
    (fun v _ => v = .agg #[.int .i64 c, .int .i64 s, .slice A l.length cap])] 2 [18, 19, 20, 21, 22, 23, 24, 25, 26, 27, 28, 29, 30] (by kernel_rfl) ?last ?steps ?fin
    case last =>
      refine lasting.cons ?_ (lasting.cons ?_ (lasting.cons ?_ (lasting.cons ?_ (lasting.cons ?_ (lasting.cons ?_ (lasting.cons ?_ (lasting.cons ?_ (lasting.cons ?_ (lasting.cons ?_ (lasting.cons ?_ (lasting.cons ?_ (lasting.cons ?_ (lasting.nil)))))))))))))
      · exact fun v a b h k => h
      · exact fun v a b h k => h
      · exact fun v a b h k => h
      · exact fun v a b h k => h
      · exact fun v a b h k => h
      · exact fun v a b h k => h
      · exact fun v a b h k => h
      · exact fun v a b h k => h
      · exact fun v a b h k => h
      · exact fun v a b h k => h
      · exact fun v a b h k => h
      · exact fun v a b h k => h
      · exact fun v a b h k => h
    case steps =>
      refine steps_cons rfl ?_ (steps_cons rfl ?_ (steps_cons rfl ?_ (steps_cons rfl ?_ (steps_cons rfl ?_ (steps_cons rfl ?_ (steps_cons rfl ?_ (steps_cons rfl ?_ (steps_cons rfl ?_ (steps_cons rfl ?_ (steps_cons rfl ?_ (steps_cons rfl ?_ (steps_cons rfl ?_ (steps_nil)))))))))))))
      · intro vals W hg hf K hK
        simp only [fillA, fillL, List.contains_cons, List.contains_nil, Nat.reduceBEq, Bool.or_false, Bool.false_or, Bool.true_or, Bool.or_true, Bool.false_eq_true, if_false, if_true, Nat.reduceAdd] at hK ⊢
        go_simp
        exact hK _ _ (Gr.refl _) rfl
      · intro vals W hg hf K hK
        have e18 : vals 18 = .pointer (some ⟨w.heap.size + 1, 1, none⟩) := hf 0 (by kernel_rfl)
        have q1 := cell_gr k1 hg
        simp only [fillA, fillL, List.contains_cons, List.contains_nil, Nat.reduceBEq, Bool.or_false, Bool.false_or, Bool.true_or, Bool.or_true, Bool.false_eq_true, if_false, if_true, Nat.reduceAdd, e18] at hK ⊢
        go_simp
        exact hK _ _ (Gr.refl _) rfl
      · intro vals W hg hf K hK
        simp only [fillA, fillL, List.contains_cons, List.contains_nil, Nat.reduceBEq, Bool.or_false, Bool.false_or, Bool.true_or, Bool.or_true, Bool.false_eq_true, if_false, if_true, Nat.reduceAdd] at hK ⊢
        go_simp
        exact hK _ _ (Gr.refl _) rfl
      · intro vals W hg hf K hK
        have e20 : vals 20 = .pointer (some ⟨w.heap.size + 1, 2, none⟩) := hf 2 (by kernel_rfl)
        have q1 := cell_gr k2 hg
        simp only [fillA, fillL, List.contains_cons, List.contains_nil, Nat.reduceBEq, Bool.or_false, Bool.false_or, Bool.true_or, Bool.or_true, Bool.false_eq_true, if_false, if_true, Nat.reduceAdd, e20] at hK ⊢
        go_simp
        exact hK _ _ (Gr.refl _) rfl
      · intro vals W hg hf K hK
        simp only [fillA, fillL, List.contains_cons, List.contains_nil, Nat.reduceBEq, Bool.or_false, Bool.false_or, Bool.true_or, Bool.or_true, Bool.false_eq_true, if_false, if_true, Nat.reduceAdd] at hK ⊢
        go_simp
        exact hK _ _ (Gr.refl _) rfl
      · intro vals W hg hf K hK
        have e22 : vals 22 = .pointer (some ⟨w.heap.size + 1, 3, none⟩) := hf 4 (by kernel_rfl)
        have q1 := cell_gr k3 hg
        simp only [fillA, fillL, List.contains_cons, List.contains_nil, Nat.reduceBEq, Bool.or_false, Bool.false_or, Bool.true_or, Bool.or_true, Bool.false_eq_true, if_false, if_true, Nat.reduceAdd, e22] at hK ⊢
        go_simp
        exact hK _ _ (Gr.refl _) rfl
      · intro vals W hg hf K hK
        simp only [fillA, fillL, List.contains_cons, List.contains_nil, Nat.reduceBEq, Bool.or_false, Bool.false_or, Bool.true_or, Bool.or_true, Bool.false_eq_true, if_false, if_true, Nat.reduceAdd] at hK ⊢
        go_simp
        exact hK _ _ (Gr.refl _) rfl
      · intro vals W hg hf K hK
        have e24 : vals 24 = .pointer (some ⟨w.heap.size + 1, 3, none⟩) := hf 6 (by kernel_rfl)
        have q1 := cell_gr k3 hg
        simp only [fillA, fillL, List.contains_cons, List.contains_nil, Nat.reduceBEq, Bool.or_false, Bool.false_or, Bool.true_or, Bool.or_true, Bool.false_eq_true, if_false, if_true, Nat.reduceAdd, e24] at hK ⊢
        go_simp
        exact hK _ _ (Gr.refl _) rfl
      · intro vals W hg hf K hK
        have e25 : vals 25 = .slice A l.length cap := hf 7 (by kernel_rfl)
        simp only [fillA, fillL, List.contains_cons, List.contains_nil, Nat.reduceBEq, Bool.or_false, Bool.false_or, Bool.true_or, Bool.or_true, Bool.false_eq_true, if_false, if_true, Nat.reduceAdd, e25] at hK ⊢
        go_simp
        exact hK _ _ (Gr.refl _) rfl
      · intro vals W hg hf K hK
        simp only [fillA, fillL, List.contains_cons, List.contains_nil, Nat.reduceBEq, Bool.or_false, Bool.false_or, Bool.true_or, Bool.or_true, Bool.false_eq_true, if_false, if_true, Nat.reduceAdd] at hK ⊢
        go_simp
        exact hK _ _ (Gr.refl _) rfl
      · intro vals W hg hf K hK
        have e26 : vals 26 = .int .i64 l.length := hf 8 (by kernel_rfl)
        have e27 : vals 27 = .int .i64 4075 := hf 9 (by kernel_rfl)
        simp only [fillA, fillL, List.contains_cons, List.contains_nil, Nat.reduceBEq, Bool.or_false, Bool.false_or, Bool.true_or, Bool.or_true, Bool.false_eq_true, if_false, if_true, Nat.reduceAdd, e26, e27] at hK ⊢
        go_simp
        rw [if_neg (by omega)]
        exact hK _ _ (Gr.refl _) rfl
      · intro vals W hg hf K hK
        have e23 : vals 23 = .slice A l.length cap := hf 5 (by kernel_rfl)
        have e28 : vals 28 = .int .i64 l.length := hf 10 (by kernel_rfl)
        simp only [fillA, fillL, List.contains_cons, List.contains_nil, Nat.reduceBEq, Bool.or_false, Bool.false_or, Bool.true_or, Bool.or_true, Bool.false_eq_true, if_false, if_true, Nat.reduceAdd, e23, e28] at hK ⊢
        go_simp
        exact hK _ _ (Gr.refl _) rfl
      · intro vals W hg hf K hK
        have e19 : vals 19 = .int .i64 c := hf 1 (by kernel_rfl)
        have e21 : vals 21 = .int .i64 s := hf 3 (by kernel_rfl)
        have e29 : vals 29 = .slice A l.length cap := hf 11 (by kernel_rfl)
        simp only [fillA, fillL, List.contains_cons, List.contains_nil, Nat.reduceBEq, Bool.or_false, Bool.false_or, Bool.true_or, Bool.or_true, Bool.false_eq_true, if_false, if_true, Nat.reduceAdd, e19, e21, e29] at hK ⊢
        go_simp
        exact hK _ _ (Gr.refl _) rfl
    case fin =>
      intro vals W hg hf
      have e30 : vals 30 = .agg #[.int .i64 c, .int .i64 s, .slice A l.length cap] := hf 12 (by kernel_rfl)
      simp only [fillA, fillL, List.contains_cons, List.contains_nil, Nat.reduceBEq, Bool.or_false, Bool.false_or, Bool.true_or, Bool.or_true, Bool.false_eq_true, if_false, if_true, Nat.reduceAdd, e30]
      have h := Lib.hid ((hB.out.gr G1.out).gr hg)
      have hR := Lib.hid (kR.out.below hg kR.out.lt)
      have c0 : W.cell? ⟨w.heap.size + 1 + 1, 0, none⟩ = some (.int .i64 0) := hR.out.cell 0
      have c1 : W.cell? ⟨w.heap.size + 1 + 1, 1, none⟩ = some (.int .i64 0) := hR.out.cell 1
      have c2 : W.cell? ⟨w.heap.size + 1 + 1, 2, none⟩ = some (.slice none 0 0) := hR.out.cell 2
      have z0 := hR.out.frozen 0
      have z1 := hR.out.frozen 1
      have z2 := hR.out.frozen 2
      have GW := Lib.hid (Gr.trans G1.out hg)
      clear k1 k2 k3 hg hf
      refine wpAny_ready (rs := [13]) (by kernel_rfl) (by simp) ?_
      refine AllReady.cons rfl (fun K hK => ?_) AllReady.nil
      go_simp
      refine hK _ _ ?_
      clear hK K
      refine wpAny_ready (rs := [14]) (by kernel_rfl) (by simp) ?_
      refine AllReady.cons rfl (fun K hK => ?_) AllReady.nil
      go_simp
      refine hK _ _ ?_
      clear hK K
      refine wpAny_done (by kernel_rfl) ?_ _
      go_wp2
      have hn1 : ∀ (v0 v1 v2 : Value), (∀ x, v0 ≠ byteV x) → (∀ x, v1 ≠ byteV x) → (∀ x, v2 ≠ byteV x) → ∀ c ∈ (#[v0, v1, v2] : Array Value).toList, ∀ x, c ≠ byteV x := by
        intro v0 v1 v2 h0 h1 h2 c hc
        simp at hc
        rcases hc with rfl | rfl | rfl <;> assumption
      have i64b : ∀ (n : Int) x, Value.int .i64 n ≠ byteV x := fun n x h => by cases h
      have slb : ∀ A n c x, Value.slice A n c ≠ byteV x := fun A n c x h => by cases h
      have s1 := h.out.store (p := ⟨w.heap.size + 1 + 1, 0, none⟩) (.int .i64 c) (hR.out.noB (hn1 _ _ _ (i64b _) (i64b _) (slb _ _ _)))
      have R1 := hR.out.set_ 0 (.int .i64 c)
      have s2 := s1.store (p := ⟨w.heap.size + 1 + 1, 1, none⟩) (.int .i64 s) (R1.noB (hn1 _ _ _ (i64b _) (i64b _) (slb _ _ _)))
      have R2 := R1.set_ 1 (.int .i64 s)
      have s3 := s2.store (p := ⟨w.heap.size + 1 + 1, 2, none⟩) (.slice A l.length cap) (R2.noB (hn1 _ _ _ (i64b _) (i64b _) (slb _ _ _)))
      refine bodyPost_ret (v := .tuple #[.agg #[.int .i64 c, .int .i64 s, .slice A l.length cap], .bool true]) (by simp [results, Tryz.results13, go_sem, c0, c1, c2]) rfl ⟨A, cap, rfl, s3, ?_⟩
      exact (((Below.setCell GW.out (p := ⟨w.heap.size + 1 + 1, 0, none⟩) (by simp; omega) _).setCell (p := ⟨w.heap.size + 1 + 1, 1, none⟩) (by simp; omega) _).setCell (p := ⟨w.heap.size + 1 + 1, 2, none⟩) (by simp; omega) _)
  · go_wp2_with (fail)
    clear hcl hfr
    refine wp_region_upto (by kernel_rfl) 13 (Nat.le_of_ble_eq_true (by kernel_rfl)) [0, 1, 2, 3, 4, 5, 6, 7, 8, 9, 10, 11, 12] rfl [
        (fun v _ => v = .pointer (some ⟨w.heap.size + 1, 1, none⟩)),
    (fun v _ => v = .int .i64 c),
    (fun v _ => v = .pointer (some ⟨w.heap.size + 1, 2, none⟩)),
    (fun v _ => v = .int .i64 s),
    (fun v _ => v = .pointer (some ⟨w.heap.size + 1, 3, none⟩)),
    (fun v _ => v = .slice A l.length cap),
    (fun v _ => v = .pointer (some ⟨w.heap.size + 1, 3, none⟩)),
    (fun v _ => v = .slice A l.length cap),
    (fun v _ => v = .int .i64 l.length),
    (fun v _ => v = .int .i64 65514),
    (fun v _ => v = .int .i64 l.length),
    (fun v _ => v = .slice A l.length cap),
    (fun v _ => v = .agg #[.int .i64 c, .int .i64 s, .slice A l.length cap])] 2 [18, 19, 20, 21, 22, 23, 24, 25, 26, 27, 28, 29, 30] (by kernel_rfl) ?last ?steps ?fin
    case last =>
      refine lasting.cons ?_ (lasting.cons ?_ (lasting.cons ?_ (lasting.cons ?_ (lasting.cons ?_ (lasting.cons ?_ (lasting.cons ?_ (lasting.cons ?_ (lasting.cons ?_ (lasting.cons ?_ (lasting.cons ?_ (lasting.cons ?_ (lasting.cons ?_ (lasting.nil)))))))))))))
      · exact fun v a b h k => h
      · exact fun v a b h k => h
      · exact fun v a b h k => h
      · exact fun v a b h k => h
      · exact fun v a b h k => h
      · exact fun v a b h k => h
      · exact fun v a b h k => h
      · exact fun v a b h k => h
      · exact fun v a b h k => h
      · exact fun v a b h k => h
      · exact fun v a b h k => h
      · exact fun v a b h k => h
      · exact fun v a b h k => h
    case steps =>
      refine steps_cons rfl ?_ (steps_cons rfl ?_ (steps_cons rfl ?_ (steps_cons rfl ?_ (steps_cons rfl ?_ (steps_cons rfl ?_ (steps_cons rfl ?_ (steps_cons rfl ?_ (steps_cons rfl ?_ (steps_cons rfl ?_ (steps_cons rfl ?_ (steps_cons rfl ?_ (steps_cons rfl ?_ (steps_nil)))))))))))))
      · intro vals W hg hf K hK
        simp only [fillA, fillL, List.contains_cons, List.contains_nil, Nat.reduceBEq, Bool.or_false, Bool.false_or, Bool.true_or, Bool.or_true, Bool.false_eq_true, if_false, if_true, Nat.reduceAdd] at hK ⊢
        go_simp
        exact hK _ _ (Gr.refl _) rfl
      · intro vals W hg hf K hK
        have e18 : vals 18 = .pointer (some ⟨w.heap.size + 1, 1, none⟩) := hf 0 (by kernel_rfl)
        have q1 := cell_gr k1 hg
        simp only [fillA, fillL, List.contains_cons, List.contains_nil, Nat.reduceBEq, Bool.or_false, Bool.false_or, Bool.true_or, Bool.or_true, Bool.false_eq_true, if_false, if_true, Nat.reduceAdd, e18] at hK ⊢
        go_simp
        exact hK _ _ (Gr.refl _) rfl
      · intro vals W hg hf K hK
        simp only [fillA, fillL, List.contains_cons, List.contains_nil, Nat.reduceBEq, Bool.or_false, Bool.false_or, Bool.true_or, Bool.or_true, Bool.false_eq_true, if_false, if_true, Nat.reduceAdd] at hK ⊢
        go_simp
        exact hK _ _ (Gr.refl _) rfl
      · intro vals W hg hf K hK
        have e20 : vals 20 = .pointer (some ⟨w.heap.size + 1, 2, none⟩) := hf 2 (by kernel_rfl)
        have q1 := cell_gr k2 hg
        simp only [fillA, fillL, List.contains_cons, List.contains_nil, Nat.reduceBEq, Bool.or_false, Bool.false_or, Bool.true_or, Bool.or_true, Bool.false_eq_true, if_false, if_true, Nat.reduceAdd, e20] at hK ⊢
        go_simp
        exact hK _ _ (Gr.refl _) rfl
      · intro vals W hg hf K hK
        simp only [fillA, fillL, List.contains_cons, List.contains_nil, Nat.reduceBEq, Bool.or_false, Bool.false_or, Bool.true_or, Bool.or_true, Bool.false_eq_true, if_false, if_true, Nat.reduceAdd] at hK ⊢
        go_simp
        exact hK _ _ (Gr.refl _) rfl
      · intro vals W hg hf K hK
        have e22 : vals 22 = .pointer (some ⟨w.heap.size + 1, 3, none⟩) := hf 4 (by kernel_rfl)
        have q1 := cell_gr k3 hg
        simp only [fillA, fillL, List.contains_cons, List.contains_nil, Nat.reduceBEq, Bool.or_false, Bool.false_or, Bool.true_or, Bool.or_true, Bool.false_eq_true, if_false, if_true, Nat.reduceAdd, e22] at hK ⊢
        go_simp
        exact hK _ _ (Gr.refl _) rfl
      · intro vals W hg hf K hK
        simp only [fillA, fillL, List.contains_cons, List.contains_nil, Nat.reduceBEq, Bool.or_false, Bool.false_or, Bool.true_or, Bool.or_true, Bool.false_eq_true, if_false, if_true, Nat.reduceAdd] at hK ⊢
        go_simp
        exact hK _ _ (Gr.refl _) rfl
      · intro vals W hg hf K hK
        have e24 : vals 24 = .pointer (some ⟨w.heap.size + 1, 3, none⟩) := hf 6 (by kernel_rfl)
        have q1 := cell_gr k3 hg
        simp only [fillA, fillL, List.contains_cons, List.contains_nil, Nat.reduceBEq, Bool.or_false, Bool.false_or, Bool.true_or, Bool.or_true, Bool.false_eq_true, if_false, if_true, Nat.reduceAdd, e24] at hK ⊢
        go_simp
        exact hK _ _ (Gr.refl _) rfl
      · intro vals W hg hf K hK
        have e25 : vals 25 = .slice A l.length cap := hf 7 (by kernel_rfl)
        simp only [fillA, fillL, List.contains_cons, List.contains_nil, Nat.reduceBEq, Bool.or_false, Bool.false_or, Bool.true_or, Bool.or_true, Bool.false_eq_true, if_false, if_true, Nat.reduceAdd, e25] at hK ⊢
        go_simp
        exact hK _ _ (Gr.refl _) rfl
      · intro vals W hg hf K hK
        simp only [fillA, fillL, List.contains_cons, List.contains_nil, Nat.reduceBEq, Bool.or_false, Bool.false_or, Bool.true_or, Bool.or_true, Bool.false_eq_true, if_false, if_true, Nat.reduceAdd] at hK ⊢
        go_simp
        exact hK _ _ (Gr.refl _) rfl
      · intro vals W hg hf K hK
        have e26 : vals 26 = .int .i64 l.length := hf 8 (by kernel_rfl)
        have e27 : vals 27 = .int .i64 65514 := hf 9 (by kernel_rfl)
        simp only [fillA, fillL, List.contains_cons, List.contains_nil, Nat.reduceBEq, Bool.or_false, Bool.false_or, Bool.true_or, Bool.or_true, Bool.false_eq_true, if_false, if_true, Nat.reduceAdd, e26, e27] at hK ⊢
        go_simp
        rw [if_neg (by omega)]
        exact hK _ _ (Gr.refl _) rfl
      · intro vals W hg hf K hK
        have e23 : vals 23 = .slice A l.length cap := hf 5 (by kernel_rfl)
        have e28 : vals 28 = .int .i64 l.length := hf 10 (by kernel_rfl)
        simp only [fillA, fillL, List.contains_cons, List.contains_nil, Nat.reduceBEq, Bool.or_false, Bool.false_or, Bool.true_or, Bool.or_true, Bool.false_eq_true, if_false, if_true, Nat.reduceAdd, e23, e28] at hK ⊢
        go_simp
        exact hK _ _ (Gr.refl _) rfl
      · intro vals W hg hf K hK
        have e19 : vals 19 = .int .i64 c := hf 1 (by kernel_rfl)
        have e21 : vals 21 = .int .i64 s := hf 3 (by kernel_rfl)
        have e29 : vals 29 = .slice A l.length cap := hf 11 (by kernel_rfl)
        simp only [fillA, fillL, List.contains_cons, List.contains_nil, Nat.reduceBEq, Bool.or_false, Bool.false_or, Bool.true_or, Bool.or_true, Bool.false_eq_true, if_false, if_true, Nat.reduceAdd, e19, e21, e29] at hK ⊢
        go_simp
        exact hK _ _ (Gr.refl _) rfl
    case fin =>
      intro vals W hg hf
      have e30 : vals 30 = .agg #[.int .i64 c, .int .i64 s, .slice A l.length cap] := hf 12 (by kernel_rfl)
      simp only [fillA, fillL, List.contains_cons, List.contains_nil, Nat.reduceBEq, Bool.or_false, Bool.false_or, Bool.true_or, Bool.or_true, Bool.false_eq_true, if_false, if_true, Nat.reduceAdd, e30]
      have h := Lib.hid ((hB.out.gr G1.out).gr hg)
      have hR := Lib.hid (kR.out.below hg kR.out.lt)
      have c0 : W.cell? ⟨w.heap.size + 1 + 1, 0, none⟩ = some (.int .i64 0) := hR.out.cell 0
      have c1 : W.cell? ⟨w.heap.size + 1 + 1, 1, none⟩ = some (.int .i64 0) := hR.out.cell 1
      have c2 : W.cell? ⟨w.heap.size + 1 + 1, 2, none⟩ = some (.slice none 0 0) := hR.out.cell 2
      have z0 := hR.out.frozen 0
      have z1 := hR.out.frozen 1
      have z2 := hR.out.frozen 2
      have GW := Lib.hid (Gr.trans G1.out hg)
      clear k1 k2 k3 hg hf
      refine wpAny_ready (rs := [13]) (by kernel_rfl) (by simp) ?_
      refine AllReady.cons rfl (fun K hK => ?_) AllReady.nil
      go_simp
      refine hK _ _ ?_
      clear hK K
      refine wpAny_ready (rs := [14]) (by kernel_rfl) (by simp) ?_
      refine AllReady.cons rfl (fun K hK => ?_) AllReady.nil
      go_simp
      refine hK _ _ ?_
      clear hK K
      refine wpAny_done (by kernel_rfl) ?_ _
      go_wp2
      have hn1 : ∀ (v0 v1 v2 : Value), (∀ x, v0 ≠ byteV x) → (∀ x, v1 ≠ byteV x) → (∀ x, v2 ≠ byteV x) → ∀ c ∈ (#[v0, v1, v2] : Array Value).toList, ∀ x, c ≠ byteV x := by
        intro v0 v1 v2 h0 h1 h2 c hc
        simp at hc
        rcases hc with rfl | rfl | rfl <;> assumption
      have i64b : ∀ (n : Int) x, Value.int .i64 n ≠ byteV x := fun n x h => by cases h
      have slb : ∀ A n c x, Value.slice A n c ≠ byteV x := fun A n c x h => by cases h
      have s1 := h.out.store (p := ⟨w.heap.size + 1 + 1, 0, none⟩) (.int .i64 c) (hR.out.noB (hn1 _ _ _ (i64b _) (i64b _) (slb _ _ _)))
      have R1 := hR.out.set_ 0 (.int .i64 c)
      have s2 := s1.store (p := ⟨w.heap.size + 1 + 1, 1, none⟩) (.int .i64 s) (R1.noB (hn1 _ _ _ (i64b _) (i64b _) (slb _ _ _)))
      have R2 := R1.set_ 1 (.int .i64 s)
      have s3 := s2.store (p := ⟨w.heap.size + 1 + 1, 2, none⟩) (.slice A l.length cap) (R2.noB (hn1 _ _ _ (i64b _) (i64b _) (slb _ _ _)))
      refine bodyPost_ret (v := .tuple #[.agg #[.int .i64 c, .int .i64 s, .slice A l.length cap], .bool true]) (by simp [results, Tryz.results13, go_sem, c0, c1, c2]) rfl ⟨A, cap, rfl, s3, ?_⟩
      exact (((Below.setCell GW.out (p := ⟨w.heap.size + 1 + 1, 0, none⟩) (by simp; omega) _).setCell (p := ⟨w.heap.size + 1 + 1, 1, none⟩) (by simp; omega) _).setCell (p := ⟨w.heap.size + 1 + 1, 2, none⟩) (by simp; omega) _)
end Go.Proofs.YthkllbjfajfidaaGreat
