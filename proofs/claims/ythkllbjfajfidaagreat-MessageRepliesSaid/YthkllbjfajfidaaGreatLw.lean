/- The walk of the law MessageReplies. -/
import Derived.Test.YthkllbjfajfidaaGreatAl
namespace Go.Proofs.YthkllbjfajfidaaGreat
open Go.RowKit

set_option maxRecDepth 100000
set_option maxHeartbeats 2000000
set_option linter.unusedSimpArgs false

theorem l14 {w : World} {g : Nat} {t : TypeId} {k c s : Int} {B : Option Addr} {n cp : Nat} (h : Blk w g t (L14 k c s B n cp)) : w.cell? ⟨g, 0, none⟩ = some (.int .i64 k) ∧ w.cell? ⟨g, 1, none⟩ = some (.int .u32 0) ∧ w.cell? ⟨g, 2, none⟩ = some (.int .i64 0) ∧ w.cell? ⟨g, 3, none⟩ = some (.int .u32 0) ∧ w.cell? ⟨g, 4, none⟩ = some (.slice none 0 0) ∧ w.cell? ⟨g, 5, none⟩ = some (.slice none 0 0) ∧ w.cell? ⟨g, 6, none⟩ = some (.slice none 0 0) ∧ w.cell? ⟨g, 7, none⟩ = some (.slice none 0 0) ∧ w.cell? ⟨g, 8, none⟩ = some (.int .i64 c) ∧ w.cell? ⟨g, 9, none⟩ = some (.int .i64 s) ∧ w.cell? ⟨g, 10, none⟩ = some (.slice B n cp) ∧ w.cell? ⟨g, 11, none⟩ = some (.int .i64 0) ∧ w.cell? ⟨g, 12, none⟩ = some (.int .i64 0) ∧ w.cell? ⟨g, 13, none⟩ = some (.int .i64 0) :=
  ⟨h.cell 0, h.cell 1, h.cell 2, h.cell 3, h.cell 4, h.cell 5, h.cell 6, h.cell 7, h.cell 8, h.cell 9, h.cell 10, h.cell 11, h.cell 12, h.cell 13⟩
theorem law_long (o0 ext o2 o3 o4 o5 : Bool) (k c s a : Int) (A : Option Addr) (n cap : Nat) (hn : 600 < n) (w : World) :
    Calls Tryz.prog 3 #[.agg #[.bool o0, .bool ext, .bool o2, .bool o3, .bool o4, .bool o5], .agg #[.int .i64 k, .int .i64 c, .int .i64 s, .slice A n cap, .int .i64 a]] w fun e w' => e = .returned (.bool true) ∧ Gr w w' := by
  have hd : decide ((600 : Int) < (n : Int)) = true := by simp; omega
  go_enter Tryz.func3, Tryz.ntmps3
  go_wp2_with (fail)
  refine (alive_walk _).mono ?_
  rintro e w1 ⟨rfl, g1⟩
  have G1 := Lib.hid (show Gr w w1 from Gr.trans (by unfold Gr; go_grown) g1)
  clear g1
  go_wp2
  go_ret
  exact ⟨rfl, G1.out⟩

theorem law_yes (o0 ext o2 o3 o4 o5 : Bool) (c s a : Int) (A : Option Addr) (cap : Nat) (l : List UInt8) (hc : 1 ≤ c) (hc6 : c ≤ 6) (hs : 0 ≤ s) (hs2 : s ≤ 255) (ha : 0 ≤ a) (hl : l.length ≤ 600) (w : World) (hb : IsB w (.slice A l.length cap) l) :
    Calls Tryz.prog 3 #[.agg #[.bool o0, .bool ext, .bool o2, .bool o3, .bool o4, .bool o5], .agg #[.int .i64 4, .int .i64 c, .int .i64 s, .slice A l.length cap, .int .i64 a]] w fun e w' => e = .returned (.bool true) ∧ Gr w w' := by
  have hd : decide ((600 : Int) < (l.length : Int)) = false := by simp; omega
  have hB := Lib.hid hb
  clear hb
  have hl4 : l.length ≤ 4000 := by omega
  go_enter Tryz.func3, Tryz.ntmps3
  go_wp2_with (fail)
  refine (reply_yes o0 ext o2 o3 o4 o5 c s a A cap l hc hc6 hs hs2 ha hl4 _ (hB.out.gr (by unfold Gr; go_grown))).mono ?_
  rintro e w1 ⟨B1, cp1, rfl, hb1, g1⟩
  unfold msgC
  have kO1 := Lib.hid (((Blk.new w 23 #[.bool o0, .bool ext, .bool o2, .bool o3, .bool o4, .bool o5]).alloc _).below g1 (by simp; omega))
  have kV1 := Lib.hid ((Blk.nat (w.alloc (.cells #[.bool o0, .bool ext, .bool o2, .bool o3, .bool o4, .bool o5] 23)) (w.heap.size + 1) (by simp) 26 #[.int .i64 4, .int .i64 c, .int .i64 s, .slice A l.length cap, .int .i64 a]).below g1 (by simp))
  obtain ⟨q0, q1, q2, q3, q4, q5⟩ := blk6 kO1.out
  have v0 : w1.cell? ⟨w.heap.size + 1, 0, none⟩ = some (.int .i64 4) := kV1.out.cell 0
  have v1 : w1.cell? ⟨w.heap.size + 1, 1, none⟩ = some (.int .i64 c) := kV1.out.cell 1
  have v2 : w1.cell? ⟨w.heap.size + 1, 2, none⟩ = some (.int .i64 s) := kV1.out.cell 2
  have v3 : w1.cell? ⟨w.heap.size + 1, 3, none⟩ = some (.slice A l.length cap) := kV1.out.cell 3
  have v4 : w1.cell? ⟨w.heap.size + 1, 4, none⟩ = some (.int .i64 a) := kV1.out.cell 4
  have hz1 : w.heap.size + 1 < w1.heap.size := kV1.out.lt
  have hz0 : w.heap.size < w1.heap.size := kO1.out.lt
  have G1 := Lib.hid (show Gr w w1 from Gr.trans (by unfold Gr; go_grown) g1)
  have hb1 := Lib.hid hb1
  clear g1
  go_wp2_with (fail)
  refine (rreply_yes o0 ext o2 o3 o4 o5 c s a A cap l hc hc6 hs hs2 ha hl4 _ (hB.out.gr (Gr.trans G1.out (by unfold Gr; go_grown)))).mono ?_
  rintro e w2 ⟨B2, cp2, rfl, hb2, g2⟩
  unfold msgC
  have G2 := Lib.hid (Gr.trans G1.out (Gr.trans (by unfold Gr; go_grown) g2))
  have hb2 := Lib.hid hb2
  have kM2 := Lib.hid ((Blk.new w1 41 (L14 3 c s B1 l.length cp1)).below g2 (Blk.new w1 41 (L14 3 c s B1 l.length cp1)).lt)
  have kO2 := Lib.hid ((kO1.out.alloc _).below g2 (kO1.out.alloc _).lt)
  have hb12 := Lib.hid ((hb1.out.gr (Gr.alloc _ _)).gr g2)
  clear g2 q0 q1 q2 q3 q4 q5 v0 v1 v2 v3 v4
  go_wp2_with (fail)
  have kM3 := Lib.hid (kM2.out.alloc (.cells (L14 3 c s B2 l.length cp2) 51))
  have kN3 := Lib.hid (Blk.new w2 51 (L14 3 c s B2 l.length cp2))
  have kO3 := Lib.hid (kO2.out.alloc (.cells (L14 3 c s B2 l.length cp2) 51))
  have hb3 := Lib.hid (hb12.out.gr (Gr.alloc w2 (.cells (L14 3 c s B2 l.length cp2) 51)))
  have hb4 := Lib.hid (hb2.out.gr (Gr.alloc w2 (.cells (L14 3 c s B2 l.length cp2) 51)))
  unfold L14 at kM3 kN3 kO3 hb3 hb4
  clear kM2 kO2 kO1 kV1 hb1 hb12 hb2
  have HBack := Lib.hid (back20 3 c s B1 l.length cp1)
  have HSame := Lib.hid (same20 3 c s B1 B2 cp1 cp2 l)
  have HVal := Lib.hid (valid_msg_note o0 ext o2 o3 o4 o5 c s B1 cp1 l (by omega) (by omega) hs hs2 hl4)
  unfold msgC at HBack HSame HVal
  refine wp_region_by (by kernel_rfl) [0, 1, 2, 3, 4, 5, 6, 7, 8, 9, 10, 11, 12, 13, 14, 15, 16, 17, 18, 19, 20, 21] rfl [
      (fun v _ => v = .bool true),
    (fun v _ => v = .bool true),
    (fun v _ => v = .agg #[.int .i64 3, .int .u32 0, .int .i64 0, .int .u32 0, .slice none 0 0, .slice none 0 0, .slice none 0 0, .slice none 0 0, .int .i64 c, .int .i64 s, .slice B1 l.length cp1, .int .i64 0, .int .i64 0, .int .i64 0]),
    (fun v _ => v = .agg #[.int .i64 3, .int .u32 0, .int .i64 0, .int .u32 0, .slice none 0 0, .slice none 0 0, .slice none 0 0, .slice none 0 0, .int .i64 c, .int .i64 s, .slice B1 l.length cp1, .int .i64 0, .int .i64 0, .int .i64 0]),
    (fun v _ => v = .agg #[.int .i64 3, .int .u32 0, .int .i64 0, .int .u32 0, .slice none 0 0, .slice none 0 0, .slice none 0 0, .slice none 0 0, .int .i64 c, .int .i64 s, .slice B2 l.length cp2, .int .i64 0, .int .i64 0, .int .i64 0]),
    (fun v _ => v = .bool true),
    (fun v _ => v = .bool true),
    (fun v _ => v = .bool true),
    (fun v _ => v = .bool true),
    (fun v _ => v = .bool true),
    (fun v _ => v = .bool true),
    (fun v _ => v = .bool true),
    (fun v _ => v = .bool true),
    (fun v _ => v = .bool true),
    (fun v _ => v = .bool false),
    (fun v _ => v = .bool false),
    (fun v _ => v = .agg #[.bool o0, .bool ext, .bool o2, .bool o3, .bool o4, .bool o5]),
    (fun v _ => v = .agg #[.int .i64 3, .int .u32 0, .int .i64 0, .int .u32 0, .slice none 0 0, .slice none 0 0, .slice none 0 0, .slice none 0 0, .int .i64 c, .int .i64 s, .slice B1 l.length cp1, .int .i64 0, .int .i64 0, .int .i64 0]),
    (fun v _ => v = .bool true),
    (fun v _ => v = .bool true),
    (fun v _ => v = .bool true),
    (fun v _ => v = .bool true)] 3 [26, 27, 28, 29, 30, 31, 32, 33, 34, 35, 36, 37, 38, 39, 40, 41, 42, 43, 44, 45, 46, 4] (by kernel_rfl) ?last ?steps (by kernel_rfl) ?fin
  case last =>
    refine lasting.cons ?_ (lasting.cons ?_ (lasting.cons ?_ (lasting.cons ?_ (lasting.cons ?_ (lasting.cons ?_ (lasting.cons ?_ (lasting.cons ?_ (lasting.cons ?_ (lasting.cons ?_ (lasting.cons ?_ (lasting.cons ?_ (lasting.cons ?_ (lasting.cons ?_ (lasting.cons ?_ (lasting.cons ?_ (lasting.cons ?_ (lasting.cons ?_ (lasting.cons ?_ (lasting.cons ?_ (lasting.cons ?_ (lasting.cons ?_ (lasting.nil))))))))))))))))))))))
    · exact fun v a b h k => h
    · exact fun v a b h k => h
    · exact fun v a b h k => h
    · exact fun v a b h k => h
    · exact fun v a b h k => h
    · exact fun v a b h k => h
    · exact fun v a b h k => h
    · exact fun v a b h k => h
    · exact fun v a b h k => h
    · exact fun v a b h k => h
    · exact fun v a b h k => h
    · exact fun v a b h k => h
    · exact fun v a b h k => h
    · exact fun v a b h k => h
    · exact fun v a b h k => h
    · exact fun v a b h k => h
    · exact fun v a b h k => h
    · exact fun v a b h k => h
    · exact fun v a b h k => h
    · exact fun v a b h k => h
    · exact fun v a b h k => h
    · exact fun v a b h k => h
  case steps =>
    refine steps_cons rfl ?_ (steps_cons rfl ?_ (steps_cons rfl ?_ (steps_cons rfl ?_ (steps_cons rfl ?_ (steps_cons rfl ?_ (steps_cons rfl ?_ (steps_cons rfl ?_ (steps_cons rfl ?_ (steps_cons rfl ?_ (steps_cons rfl ?_ (steps_cons rfl ?_ (steps_cons rfl ?_ (steps_cons rfl ?_ (steps_cons rfl ?_ (steps_cons rfl ?_ (steps_cons rfl ?_ (steps_cons rfl ?_ (steps_cons rfl ?_ (steps_cons rfl ?_ (steps_cons rfl ?_ (steps_cons rfl ?_ (steps_nil))))))))))))))))))))))
    · intro vals W hg hf K hK
      simp only [fillA, fillL, List.contains_cons, List.contains_nil, Nat.reduceBEq, Bool.or_false, Bool.false_or, Bool.true_or, Bool.or_true, Bool.false_eq_true, if_false, if_true, Nat.reduceAdd] at hK ⊢
      go_simp
      refine (alive_walk _).mono ?_
      rintro e w' ⟨rfl, hgw⟩
      go_simp
      exact hK _ _ hgw rfl
    · intro vals W hg hf K hK
      have e26 : vals 26 = .bool true := hf 0 (by kernel_rfl)
      simp only [fillA, fillL, List.contains_cons, List.contains_nil, Nat.reduceBEq, Bool.or_false, Bool.false_or, Bool.true_or, Bool.or_true, Bool.false_eq_true, if_false, if_true, Nat.reduceAdd, e26] at hK ⊢
      go_simp
      exact hK _ _ (Gr.refl _) rfl
    · intro vals W hg hf K hK
      have e27 : vals 27 = .bool true := hf 1 (by kernel_rfl)
      obtain ⟨d0, d1, d2, d3, d4, d5, d6, d7, d8, d9, d10, d11, d12, d13⟩ := l14 (kM3.out.below hg kM3.out.lt)
      simp only [fillA, fillL, List.contains_cons, List.contains_nil, Nat.reduceBEq, Bool.or_false, Bool.false_or, Bool.true_or, Bool.or_true, Bool.false_eq_true, if_false, if_true, Nat.reduceAdd, e27] at hK ⊢
      go_simp
      exact hK _ _ (Gr.refl _) rfl
    · intro vals W hg hf K hK
      have e28 : vals 28 = .agg #[.int .i64 3, .int .u32 0, .int .i64 0, .int .u32 0, .slice none 0 0, .slice none 0 0, .slice none 0 0, .slice none 0 0, .int .i64 c, .int .i64 s, .slice B1 l.length cp1, .int .i64 0, .int .i64 0, .int .i64 0] := hf 2 (by kernel_rfl)
      have e27 : vals 27 = .bool true := hf 1 (by kernel_rfl)
      simp only [fillA, fillL, List.contains_cons, List.contains_nil, Nat.reduceBEq, Bool.or_false, Bool.false_or, Bool.true_or, Bool.or_true, Bool.false_eq_true, if_false, if_true, Nat.reduceAdd, e28, e27] at hK ⊢
      go_simp
      refine (HBack.out _).mono ?_
      rintro e w' ⟨rfl, hgw⟩
      go_simp
      exact hK _ _ hgw rfl
    · intro vals W hg hf K hK
      have e27 : vals 27 = .bool true := hf 1 (by kernel_rfl)
      obtain ⟨d0, d1, d2, d3, d4, d5, d6, d7, d8, d9, d10, d11, d12, d13⟩ := l14 (kN3.out.below hg kN3.out.lt)
      simp only [fillA, fillL, List.contains_cons, List.contains_nil, Nat.reduceBEq, Bool.or_false, Bool.false_or, Bool.true_or, Bool.or_true, Bool.false_eq_true, if_false, if_true, Nat.reduceAdd, e27] at hK ⊢
      go_simp
      exact hK _ _ (Gr.refl _) rfl
    · intro vals W hg hf K hK
      have e29 : vals 29 = .agg #[.int .i64 3, .int .u32 0, .int .i64 0, .int .u32 0, .slice none 0 0, .slice none 0 0, .slice none 0 0, .slice none 0 0, .int .i64 c, .int .i64 s, .slice B1 l.length cp1, .int .i64 0, .int .i64 0, .int .i64 0] := hf 3 (by kernel_rfl)
      have e30 : vals 30 = .agg #[.int .i64 3, .int .u32 0, .int .i64 0, .int .u32 0, .slice none 0 0, .slice none 0 0, .slice none 0 0, .slice none 0 0, .int .i64 c, .int .i64 s, .slice B2 l.length cp2, .int .i64 0, .int .i64 0, .int .i64 0] := hf 4 (by kernel_rfl)
      have e27 : vals 27 = .bool true := hf 1 (by kernel_rfl)
      simp only [fillA, fillL, List.contains_cons, List.contains_nil, Nat.reduceBEq, Bool.or_false, Bool.false_or, Bool.true_or, Bool.or_true, Bool.false_eq_true, if_false, if_true, Nat.reduceAdd, e29, e30, e27] at hK ⊢
      go_simp
      refine (HSame.out _ (hb3.out.gr hg) (hb4.out.gr hg)).mono ?_
      rintro e w' ⟨rfl, hgw⟩
      go_simp
      exact hK _ _ hgw rfl
    · intro vals W hg hf K hK
      have e27 : vals 27 = .bool true := hf 1 (by kernel_rfl)
      have e31 : vals 31 = .bool true := hf 5 (by kernel_rfl)
      simp only [fillA, fillL, List.contains_cons, List.contains_nil, Nat.reduceBEq, Bool.or_false, Bool.false_or, Bool.true_or, Bool.or_true, Bool.false_eq_true, if_false, if_true, Nat.reduceAdd, e27, e31] at hK ⊢
      go_simp
      exact hK _ _ (Gr.refl _) rfl
    · intro vals W hg hf K hK
      have e32 : vals 32 = .bool true := hf 6 (by kernel_rfl)
      simp only [fillA, fillL, List.contains_cons, List.contains_nil, Nat.reduceBEq, Bool.or_false, Bool.false_or, Bool.true_or, Bool.or_true, Bool.false_eq_true, if_false, if_true, Nat.reduceAdd, e32] at hK ⊢
      go_simp
      exact hK _ _ (Gr.refl _) rfl
    · intro vals W hg hf K hK
      have e33 : vals 33 = .bool true := hf 7 (by kernel_rfl)
      simp only [fillA, fillL, List.contains_cons, List.contains_nil, Nat.reduceBEq, Bool.or_false, Bool.false_or, Bool.true_or, Bool.or_true, Bool.false_eq_true, if_false, if_true, Nat.reduceAdd, e33] at hK ⊢
      go_simp
      exact hK _ _ (Gr.refl _) rfl
    · intro vals W hg hf K hK
      have e33 : vals 33 = .bool true := hf 7 (by kernel_rfl)
      simp only [fillA, fillL, List.contains_cons, List.contains_nil, Nat.reduceBEq, Bool.or_false, Bool.false_or, Bool.true_or, Bool.or_true, Bool.false_eq_true, if_false, if_true, Nat.reduceAdd, e33] at hK ⊢
      go_simp
      exact hK _ _ (Gr.refl _) rfl
    · intro vals W hg hf K hK
      have e34 : vals 34 = .bool true := hf 8 (by kernel_rfl)
      have e35 : vals 35 = .bool true := hf 9 (by kernel_rfl)
      have e33 : vals 33 = .bool true := hf 7 (by kernel_rfl)
      simp only [fillA, fillL, List.contains_cons, List.contains_nil, Nat.reduceBEq, Bool.or_false, Bool.false_or, Bool.true_or, Bool.or_true, Bool.false_eq_true, if_false, if_true, Nat.reduceAdd, e34, e35, e33] at hK ⊢
      go_simp
      exact hK _ _ (Gr.refl _) rfl
    · intro vals W hg hf K hK
      have e33 : vals 33 = .bool true := hf 7 (by kernel_rfl)
      have e36 : vals 36 = .bool true := hf 10 (by kernel_rfl)
      simp only [fillA, fillL, List.contains_cons, List.contains_nil, Nat.reduceBEq, Bool.or_false, Bool.false_or, Bool.true_or, Bool.or_true, Bool.false_eq_true, if_false, if_true, Nat.reduceAdd, e33, e36] at hK ⊢
      go_simp
      exact hK _ _ (Gr.refl _) rfl
    · intro vals W hg hf K hK
      have e37 : vals 37 = .bool true := hf 11 (by kernel_rfl)
      simp only [fillA, fillL, List.contains_cons, List.contains_nil, Nat.reduceBEq, Bool.or_false, Bool.false_or, Bool.true_or, Bool.or_true, Bool.false_eq_true, if_false, if_true, Nat.reduceAdd, e37] at hK ⊢
      go_simp
      exact hK _ _ (Gr.refl _) rfl
    · intro vals W hg hf K hK
      have e38 : vals 38 = .bool true := hf 12 (by kernel_rfl)
      simp only [fillA, fillL, List.contains_cons, List.contains_nil, Nat.reduceBEq, Bool.or_false, Bool.false_or, Bool.true_or, Bool.or_true, Bool.false_eq_true, if_false, if_true, Nat.reduceAdd, e38] at hK ⊢
      go_simp
      exact hK _ _ (Gr.refl _) rfl
    · intro vals W hg hf K hK
      have e39 : vals 39 = .bool true := hf 13 (by kernel_rfl)
      have e38 : vals 38 = .bool true := hf 12 (by kernel_rfl)
      simp only [fillA, fillL, List.contains_cons, List.contains_nil, Nat.reduceBEq, Bool.or_false, Bool.false_or, Bool.true_or, Bool.or_true, Bool.false_eq_true, if_false, if_true, Nat.reduceAdd, e39, e38] at hK ⊢
      go_simp
      exact hK _ _ (Gr.refl _) rfl
    · intro vals W hg hf K hK
      have e40 : vals 40 = .bool false := hf 14 (by kernel_rfl)
      have e38 : vals 38 = .bool true := hf 12 (by kernel_rfl)
      simp only [fillA, fillL, List.contains_cons, List.contains_nil, Nat.reduceBEq, Bool.or_false, Bool.false_or, Bool.true_or, Bool.or_true, Bool.false_eq_true, if_false, if_true, Nat.reduceAdd, e40, e38] at hK ⊢
      go_simp
      exact hK _ _ (Gr.refl _) rfl
    · intro vals W hg hf K hK
      have e41 : vals 41 = .bool false := hf 15 (by kernel_rfl)
      obtain ⟨q0, q1, q2, q3, q4, q5⟩ := blk6 (kO3.out.below hg kO3.out.lt)
      simp only [fillA, fillL, List.contains_cons, List.contains_nil, Nat.reduceBEq, Bool.or_false, Bool.false_or, Bool.true_or, Bool.or_true, Bool.false_eq_true, if_false, if_true, Nat.reduceAdd, e41] at hK ⊢
      go_simp
      exact hK _ _ (Gr.refl _) rfl
    · intro vals W hg hf K hK
      have e41 : vals 41 = .bool false := hf 15 (by kernel_rfl)
      obtain ⟨d0, d1, d2, d3, d4, d5, d6, d7, d8, d9, d10, d11, d12, d13⟩ := l14 (kM3.out.below hg kM3.out.lt)
      simp only [fillA, fillL, List.contains_cons, List.contains_nil, Nat.reduceBEq, Bool.or_false, Bool.false_or, Bool.true_or, Bool.or_true, Bool.false_eq_true, if_false, if_true, Nat.reduceAdd, e41] at hK ⊢
      go_simp
      exact hK _ _ (Gr.refl _) rfl
    · intro vals W hg hf K hK
      have e42 : vals 42 = .agg #[.bool o0, .bool ext, .bool o2, .bool o3, .bool o4, .bool o5] := hf 16 (by kernel_rfl)
      have e43 : vals 43 = .agg #[.int .i64 3, .int .u32 0, .int .i64 0, .int .u32 0, .slice none 0 0, .slice none 0 0, .slice none 0 0, .slice none 0 0, .int .i64 c, .int .i64 s, .slice B1 l.length cp1, .int .i64 0, .int .i64 0, .int .i64 0] := hf 17 (by kernel_rfl)
      have e41 : vals 41 = .bool false := hf 15 (by kernel_rfl)
      simp only [fillA, fillL, List.contains_cons, List.contains_nil, Nat.reduceBEq, Bool.or_false, Bool.false_or, Bool.true_or, Bool.or_true, Bool.false_eq_true, if_false, if_true, Nat.reduceAdd, e42, e43, e41] at hK ⊢
      go_simp
      refine (HVal.out _ (hb3.out.gr hg)).mono ?_
      rintro e w' ⟨rfl, hgw⟩
      go_simp
      exact hK _ _ hgw rfl
    · intro vals W hg hf K hK
      have e41 : vals 41 = .bool false := hf 15 (by kernel_rfl)
      have e44 : vals 44 = .bool true := hf 18 (by kernel_rfl)
      have e38 : vals 38 = .bool true := hf 12 (by kernel_rfl)
      simp only [fillA, fillL, List.contains_cons, List.contains_nil, Nat.reduceBEq, Bool.or_false, Bool.false_or, Bool.true_or, Bool.or_true, Bool.false_eq_true, if_false, if_true, Nat.reduceAdd, e41, e44, e38] at hK ⊢
      go_simp
      exact hK _ _ (Gr.refl _) rfl
    · intro vals W hg hf K hK
      have e38 : vals 38 = .bool true := hf 12 (by kernel_rfl)
      have e45 : vals 45 = .bool true := hf 19 (by kernel_rfl)
      simp only [fillA, fillL, List.contains_cons, List.contains_nil, Nat.reduceBEq, Bool.or_false, Bool.false_or, Bool.true_or, Bool.or_true, Bool.false_eq_true, if_false, if_true, Nat.reduceAdd, e38, e45] at hK ⊢
      go_simp
      exact hK _ _ (Gr.refl _) rfl
    · intro vals W hg hf K hK
      have e46 : vals 46 = .bool true := hf 20 (by kernel_rfl)
      simp only [fillA, fillL, List.contains_cons, List.contains_nil, Nat.reduceBEq, Bool.or_false, Bool.false_or, Bool.true_or, Bool.or_true, Bool.false_eq_true, if_false, if_true, Nat.reduceAdd, e46] at hK ⊢
      go_simp
      exact hK _ _ (Gr.refl _) rfl
  case fin =>
    intro vals W hg hf
    have e4 : vals 4 = .bool true := hf 21 (by kernel_rfl)
    simp only [fillA, fillL, List.contains_cons, List.contains_nil, Nat.reduceBEq, Bool.or_false, Bool.false_or, Bool.true_or, Bool.or_true, Bool.false_eq_true, if_false, if_true, Nat.reduceAdd, e4]
    have hG := Lib.hid (Gr.trans G2.out (Gr.trans (by unfold Gr; go_grown) hg))
    clear hg hf
    go_wp2
    go_ret
    exact ⟨rfl, hG.out⟩
end Go.Proofs.YthkllbjfajfidaaGreat
