/- The walk of notice.Of. -/
import Derived.Test.YthkllbjfajfidaaGreatNo
namespace Go.Proofs.YthkllbjfajfidaaGreat
open Go.RowKit

set_option maxRecDepth 100000
set_option maxHeartbeats 1000000
set_option linter.unusedSimpArgs false

theorem IsB.recap {w : World} {A : Option Addr} {c : Nat} {l : List UInt8} (h : IsB w (.slice A l.length c) l) : IsB w (.slice A l.length l.length) l := by
  obtain ⟨B, c', e, h1, h2, h3⟩ := h
  injection e with e1 e2 e3
  subst e1
  exact ⟨A, _, rfl, Nat.le_refl _, Nat.le_trans h1 h2, h3⟩
theorem IsB.cap {w : World} {A : Option Addr} {n c : Nat} {l : List UInt8} (h : IsB w (.slice A n c) l) : n = l.length ∧ n ≤ c ∧ c ≤ maxLen := by
  obtain ⟨B, c', e, h1, h2, h3⟩ := h
  injection e with e1 e2 e3
  subst e2 e3
  exact ⟨rfl, h1, h2⟩
theorem of_note_yes (o0 ext o2 o3 o4 o5 : Bool) (c s a : Int) (A : Option Addr) (cap : Nat) (l : List UInt8) (hc : 1 ≤ c) (hc6 : c ≤ 6) (hs : 0 ≤ s) (hs2 : s ≤ 255) (ha : 0 ≤ a) (hl : l.length ≤ 4000) (w : World) (hb : IsB w (.slice A l.length cap) l) :
    Calls Tryz.prog 12 #[.agg #[.bool o0, .bool ext, .bool o2, .bool o3, .bool o4, .bool o5], .agg #[.int .i64 4, .int .i64 c, .int .i64 s, .slice A l.length cap, .int .i64 a]] w fun e w' => ∃ B cap', e = .returned (.tuple #[.agg #[.int .i64 c, .int .i64 s, .slice B l.length cap'], .bool true]) ∧ IsB w' (.slice B l.length cap') l ∧ Gr w w' := by
  have hcap : (l.length : Int) ≤ (cap : Int) := by have := hb.cap; omega
  have hB := Lib.hid hb.recap
  clear hb
  have hl' : (l.length : Int) ≤ 4000 := by omega
  go_enter Tryz.func12, Tryz.ntmps12
  go_wp2_with (fail)
  refine (proper_yes c s a A l.length cap hc hc6 hs hs2 ha _).mono ?_
  rintro e w1 ⟨rfl, g1⟩
  have kV := Lib.hid (Blk.below ((Blk.nat (w.alloc (.cells #[.bool o0, .bool ext, .bool o2, .bool o3, .bool o4, .bool o5] 23)) (w.heap.size + 1) (by simp) 26 #[.int .i64 4, .int .i64 c, .int .i64 s, .slice A l.length cap, .int .i64 a]).alloc _) g1 (by simp))
  have k1 : w1.cell? ⟨w.heap.size + 1, 1, none⟩ = some (.int .i64 c) := kV.out.cell 1
  have k2 : w1.cell? ⟨w.heap.size + 1, 2, none⟩ = some (.int .i64 s) := kV.out.cell 2
  have k3 : w1.cell? ⟨w.heap.size + 1, 3, none⟩ = some (.slice A l.length cap) := kV.out.cell 3
  have kR := Lib.hid (Blk.below (Blk.nat ((w.alloc (.cells #[.bool o0, .bool ext, .bool o2, .bool o3, .bool o4, .bool o5] 23)).alloc (.cells #[.int .i64 4, .int .i64 c, .int .i64 s, .slice A l.length cap, .int .i64 a] 26)) (w.heap.size + 1 + 1) (by simp) 37 #[.int .i64 0, .int .i64 0, .slice none 0 0]) g1 (by simp))
  obtain ⟨hcl, hfr⟩ := gcell g1
  have hz : w.heap.size + 2 < w1.heap.size := by have := g1.size; simp at this; omega
  have G1 := Lib.hid (show Gr w w1 from Gr.trans (by unfold Gr; go_grown) g1)
  clear g1
  cases ext
  all_goals
    go_wp2_with (fail)
    clear hcl hfr
    refine wp_region_upto (by kernel_rfl) 11 (Nat.le_of_ble_eq_true (by kernel_rfl)) [0, 1, 2, 3, 4, 5, 6, 7, 8, 9, 10] rfl [
        (fun v _ => v = .pointer (some ⟨w.heap.size + 1, 1, none⟩)),
    (fun v _ => v = .int .i64 c),
    (fun v _ => v = .pointer (some ⟨w.heap.size + 1, 2, none⟩)),
    (fun v _ => v = .int .i64 s),
    (fun v _ => v = .pointer (some ⟨w.heap.size + 1, 3, none⟩)),
    (fun v _ => v = .slice A l.length cap),
    (fun v _ => v = .int .i64 l.length),
    (fun v _ => v = .int .i64 l.length),
    (fun v _ => v = .slice A l.length l.length),
    (fun v W => ∃ B cap', v = .slice B l.length cap' ∧ IsB W (.slice B l.length cap') l),
    (fun v W => ∃ B cap', v = .agg #[.int .i64 c, .int .i64 s, .slice B l.length cap'] ∧ IsB W (.slice B l.length cap') l)] 2 [24, 25, 26, 27, 28, 29, 30, 31, 32, 33, 34] (by kernel_rfl) ?last ?steps ?fin
    case last =>
      refine lasting.cons ?_ (lasting.cons ?_ (lasting.cons ?_ (lasting.cons ?_ (lasting.cons ?_ (lasting.cons ?_ (lasting.cons ?_ (lasting.cons ?_ (lasting.cons ?_ (lasting.cons ?_ (lasting.cons ?_ (lasting.nil)))))))))))
      · exact fun v a b h k => h
      · exact fun v a b h k => h
      · exact fun v a b h k => h
      · exact fun v a b h k => h
      · exact fun v a b h k => h
      · exact fun v a b h k => h
      · exact fun v a b h k => h
      · exact fun v a b h k => h
      · exact fun v a b h k => h
      · exact fun v a b ⟨B, cp, e, h⟩ k => ⟨B, cp, e, h.gr k⟩
      · exact fun v a b ⟨B, cp, e, h⟩ k => ⟨B, cp, e, h.gr k⟩
    case steps =>
      refine steps_cons rfl ?_ (steps_cons rfl ?_ (steps_cons rfl ?_ (steps_cons rfl ?_ (steps_cons rfl ?_ (steps_cons rfl ?_ (steps_cons rfl ?_ (steps_cons rfl ?_ (steps_cons rfl ?_ (steps_cons rfl ?_ (steps_cons rfl ?_ (steps_nil)))))))))))
      · intro vals W hg hf K hK
        simp only [fillA, fillL, List.contains_cons, List.contains_nil, Nat.reduceBEq, Bool.or_false, Bool.false_or, Bool.true_or, Bool.or_true, Bool.false_eq_true, if_false, if_true, Nat.reduceAdd] at hK ⊢
        go_simp
        exact hK _ _ (Gr.refl _) rfl
      · intro vals W hg hf K hK
        have e24 : vals 24 = .pointer (some ⟨w.heap.size + 1, 1, none⟩) := hf 0 (by kernel_rfl)
        have q1 := cell_gr k1 hg
        simp only [fillA, fillL, List.contains_cons, List.contains_nil, Nat.reduceBEq, Bool.or_false, Bool.false_or, Bool.true_or, Bool.or_true, Bool.false_eq_true, if_false, if_true, Nat.reduceAdd, e24] at hK ⊢
        go_simp
        exact hK _ _ (Gr.refl _) rfl
      · intro vals W hg hf K hK
        simp only [fillA, fillL, List.contains_cons, List.contains_nil, Nat.reduceBEq, Bool.or_false, Bool.false_or, Bool.true_or, Bool.or_true, Bool.false_eq_true, if_false, if_true, Nat.reduceAdd] at hK ⊢
        go_simp
        exact hK _ _ (Gr.refl _) rfl
      · intro vals W hg hf K hK
        have e26 : vals 26 = .pointer (some ⟨w.heap.size + 1, 2, none⟩) := hf 2 (by kernel_rfl)
        have q1 := cell_gr k2 hg
        simp only [fillA, fillL, List.contains_cons, List.contains_nil, Nat.reduceBEq, Bool.or_false, Bool.false_or, Bool.true_or, Bool.or_true, Bool.false_eq_true, if_false, if_true, Nat.reduceAdd, e26] at hK ⊢
        go_simp
        exact hK _ _ (Gr.refl _) rfl
      · intro vals W hg hf K hK
        simp only [fillA, fillL, List.contains_cons, List.contains_nil, Nat.reduceBEq, Bool.or_false, Bool.false_or, Bool.true_or, Bool.or_true, Bool.false_eq_true, if_false, if_true, Nat.reduceAdd] at hK ⊢
        go_simp
        exact hK _ _ (Gr.refl _) rfl
      · intro vals W hg hf K hK
        have e28 : vals 28 = .pointer (some ⟨w.heap.size + 1, 3, none⟩) := hf 4 (by kernel_rfl)
        have q1 := cell_gr k3 hg
        simp only [fillA, fillL, List.contains_cons, List.contains_nil, Nat.reduceBEq, Bool.or_false, Bool.false_or, Bool.true_or, Bool.or_true, Bool.false_eq_true, if_false, if_true, Nat.reduceAdd, e28] at hK ⊢
        go_simp
        exact hK _ _ (Gr.refl _) rfl
      · intro vals W hg hf K hK
        simp only [fillA, fillL, List.contains_cons, List.contains_nil, Nat.reduceBEq, Bool.or_false, Bool.false_or, Bool.true_or, Bool.or_true, Bool.false_eq_true, if_false, if_true, Nat.reduceAdd] at hK ⊢
        go_simp
        exact hK _ _ (Gr.refl _) rfl
      · intro vals W hg hf K hK
        simp only [fillA, fillL, List.contains_cons, List.contains_nil, Nat.reduceBEq, Bool.or_false, Bool.false_or, Bool.true_or, Bool.or_true, Bool.false_eq_true, if_false, if_true, Nat.reduceAdd] at hK ⊢
        go_simp
        exact hK _ _ (Gr.refl _) rfl
      · intro vals W hg hf K hK
        have e29 : vals 29 = .slice A l.length cap := hf 5 (by kernel_rfl)
        have e30 : vals 30 = .int .i64 l.length := hf 6 (by kernel_rfl)
        have e31 : vals 31 = .int .i64 l.length := hf 7 (by kernel_rfl)
        simp only [fillA, fillL, List.contains_cons, List.contains_nil, Nat.reduceBEq, Bool.or_false, Bool.false_or, Bool.true_or, Bool.or_true, Bool.false_eq_true, if_false, if_true, Nat.reduceAdd, e29, e30, e31] at hK ⊢
        go_simp
        exact hK _ _ (Gr.refl _) rfl
      · intro vals W hg hf K hK
        have e32 : vals 32 = .slice A l.length l.length := hf 8 (by kernel_rfl)
        have HC := Lib.hid (clone_walk W (.slice A l.length l.length) l ((hB.out.gr G1.out).gr hg) (by omega))
        simp only [fillA, fillL, List.contains_cons, List.contains_nil, Nat.reduceBEq, Bool.or_false, Bool.false_or, Bool.true_or, Bool.or_true, Bool.false_eq_true, if_false, if_true, Nat.reduceAdd, e32] at hK ⊢
        go_simp
        refine HC.out.mono ?_
        rintro e w' ⟨v, rfl, hv, hgw⟩
        obtain ⟨B, cp, e, _⟩ := id hv
        subst e
        have hv := Lib.hid hv
        go_simp
        exact hK _ _ hgw ⟨B, cp, rfl, hv.out⟩
      · intro vals W hg hf K hK
        have e25 : vals 25 = .int .i64 c := hf 1 (by kernel_rfl)
        have e27 : vals 27 = .int .i64 s := hf 3 (by kernel_rfl)
        have f33 : (fun v W => ∃ B cap', v = .slice B l.length cap' ∧ IsB W (.slice B l.length cap') l) (vals 33) W := hf 9 (by kernel_rfl)
        obtain ⟨B, cp, e, h⟩ := f33
        have h := Lib.hid h
        simp only [fillA, fillL, List.contains_cons, List.contains_nil, Nat.reduceBEq, Bool.or_false, Bool.false_or, Bool.true_or, Bool.or_true, Bool.false_eq_true, if_false, if_true, Nat.reduceAdd, e25, e27, e] at hK ⊢
        go_simp
        exact hK _ _ (Gr.refl _) ⟨B, cp, rfl, h.out⟩
    case fin =>
      intro vals W hg hf
      have f34 : (fun v W => ∃ B cap', v = .agg #[.int .i64 c, .int .i64 s, .slice B l.length cap'] ∧ IsB W (.slice B l.length cap') l) (vals 34) W := hf 10 (by kernel_rfl)
      simp only [fillA, fillL, List.contains_cons, List.contains_nil, Nat.reduceBEq, Bool.or_false, Bool.false_or, Bool.true_or, Bool.or_true, Bool.false_eq_true, if_false, if_true, Nat.reduceAdd]
      obtain ⟨B, cp, e, h⟩ := f34
      have h := Lib.hid h
      have hR := Lib.hid (kR.out.below hg kR.out.lt)
      have c0 : W.cell? ⟨w.heap.size + 1 + 1, 0, none⟩ = some (.int .i64 0) := hR.out.cell 0
      have c1 : W.cell? ⟨w.heap.size + 1 + 1, 1, none⟩ = some (.int .i64 0) := hR.out.cell 1
      have c2 : W.cell? ⟨w.heap.size + 1 + 1, 2, none⟩ = some (.slice none 0 0) := hR.out.cell 2
      have z0 := hR.out.frozen 0
      have z1 := hR.out.frozen 1
      have z2 := hR.out.frozen 2
      have GW := Lib.hid (Gr.trans G1.out hg)
      clear k1 k2 k3 hg hf
      refine wpAny_ready (rs := [11]) (by kernel_rfl) (by simp) ?_
      refine AllReady.cons rfl (fun K hK => ?_) AllReady.nil
      go_simp
      refine hK _ _ ?_
      clear hK K
      refine wpAny_ready (rs := [12]) (by kernel_rfl) (by simp) ?_
      refine AllReady.cons rfl (fun K hK => ?_) AllReady.nil
      go_simp
      refine hK _ _ ?_
      clear hK K
      refine wpAny_done (by kernel_rfl) ?_ _
      go_wp2
      have hn1 : ∀ (v0 v1 v2 : Value), (∀ x, v0 ≠ byteV x) → (∀ x, v1 ≠ byteV x) → (∀ x, v2 ≠ byteV x) → ∀ c ∈ (#[v0, v1, v2] : Array Value).toList, ∀ x, c ≠ byteV x := by
        intro v0 v1 v2 h0 h1 h2 c hc
        simp at hc
        rcases hc with rfl | rfl | rfl <;> assumption
      have i64b : ∀ (n : Int) x, Value.int .i64 n ≠ byteV x := fun n x h => by cases h
      have slb : ∀ A n c x, Value.slice A n c ≠ byteV x := fun A n c x h => by cases h
      have s1 := h.out.store (p := ⟨w.heap.size + 1 + 1, 0, none⟩) (.int .i64 c) (hR.out.noB (hn1 _ _ _ (i64b _) (i64b _) (slb _ _ _)))
      have R1 := hR.out.set_ 0 (.int .i64 c)
      have s2 := s1.store (p := ⟨w.heap.size + 1 + 1, 1, none⟩) (.int .i64 s) (R1.noB (hn1 _ _ _ (i64b _) (i64b _) (slb _ _ _)))
      have R2 := R1.set_ 1 (.int .i64 s)
      have s3 := s2.store (p := ⟨w.heap.size + 1 + 1, 2, none⟩) (.slice B l.length cp) (R2.noB (hn1 _ _ _ (i64b _) (i64b _) (slb _ _ _)))
      refine bodyPost_ret (v := .tuple #[.agg #[.int .i64 c, .int .i64 s, .slice B l.length cp], .bool true]) (by simp [results, Tryz.results12, go_sem, c0, c1, c2]) rfl ⟨B, cp, rfl, s3, ?_⟩
      exact (((Below.setCell GW.out (p := ⟨w.heap.size + 1 + 1, 0, none⟩) (by simp; omega) _).setCell (p := ⟨w.heap.size + 1 + 1, 1, none⟩) (by simp; omega) _).setCell (p := ⟨w.heap.size + 1 + 1, 2, none⟩) (by simp; omega) _)
end Go.Proofs.YthkllbjfajfidaaGreat
