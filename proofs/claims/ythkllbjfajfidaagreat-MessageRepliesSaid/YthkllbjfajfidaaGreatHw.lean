/- Walks of header.Bytes and header.Wrap. -/
import Derived.Test.YthkllbjfajfidaaGreatHd
namespace Go.Proofs.YthkllbjfajfidaaGreat
open Go.RowKit

set_option maxRecDepth 100000
set_option maxHeartbeats 1000000
set_option linter.unusedSimpArgs false

def headB (n k : Nat) : List UInt8 := List.replicate 16 255 ++ be2 n ++ [UInt8.ofNat k]
theorem headB_length (n k : Nat) : (headB n k).length = 19 := rfl
theorem one_byte (w : World) (g : Nat) (k : Nat) (hk : k ≤ 255) (h : Blk w g 5 #[.int .u8 (k : Int)]) : IsB w (.slice (some ⟨g, 0, none⟩) 1 1) [UInt8.ofNat k] := by
  refine IsB.of_block h ?_ rfl (Nat.le_refl _) (by unfold maxLen; omega)
  simp only [cellsB, List.map_cons, List.map_nil, byteV_ofNat]
  rw [Nat.mod_eq_of_lt (by omega)]

theorem bytes_head (n k : Nat) (h1 : n ≤ 65535) (k1 : k ≤ 255) (w : World) :
    Calls Tryz.prog 30 #[.agg #[.int .i64 n, .int .i64 k]] w fun e w' => ∃ v, e = .returned (.tuple #[v, .bool true]) ∧ IsB w' v (headB n k) ∧ Gr w w' := by
  go_enter Tryz.func30, Tryz.ntmps30
  go_wp2_with (go_at_call 36; refine (put_two n (by omega) (by omega) _).mono ?_; rintro e w1 ⟨v1, rfl, o1, b1⟩)
  have hk1 : w1.cell? ⟨w.heap.size, 1, none⟩ = some (.int .i64 k) := (Below.cell b1 (p := ⟨w.heap.size, 1, none⟩) (by simp)).trans (by simp)
  have B1 : Gr w w1 := Gr.trans (by unfold Gr; go_grown) b1
  simp only [Int.toNat_natCast] at o1
  obtain ⟨A1, c1, rfl, q1, q2, q3⟩ := o1
  have o1 : IsB w1 (.slice A1 2 c1) (be2 n) := ⟨A1, c1, rfl, q1, q2, q3⟩
  simp only [be2_length]
  clear b1 q1 q2 q3
  have k2 : (k : Int) ≤ 255 := by omega
  refine wp_region_by (by kernel_rfl) [0, 1, 2, 3, 4, 5, 6, 7, 8, 9, 10] rfl [
      (fun v W => ∃ g, v = .slice (some ⟨g, 0, none⟩) 1 1 ∧ Blk W g 5 #[.int .u8 255]),
    (fun v W => IsB W v (List.replicate 16 255)),
    (fun v _ => v = .slice A1 2 c1),
    (fun v _ => v = .pointer (some ⟨w.heap.size, 1, none⟩)),
    (fun v _ => v = .int .i64 k),
    (fun v _ => v = .int .u8 k),
    (fun v W => IsB W v [UInt8.ofNat k]),
    (fun v W => ∃ g u2 u3, v = .slice (some ⟨g, 0, none⟩) 3 3 ∧ Blk W g 24 #[u2, .slice A1 2 c1, u3] ∧ IsB W u2 (List.replicate 16 255) ∧ IsB W u3 [UInt8.ofNat k]),
    (fun v W => IsB W v (headB n k)),
    (fun v W => IsB W v (headB n k)),
    (fun v _ => v = .bool true)] 2 [31, 32, 33, 34, 35, 36, 37, 38, 39, 2, 3] (by kernel_rfl) ?last ?steps (by kernel_rfl) ?fin
  case last =>
    refine lasting.cons ?_ (lasting.cons ?_ (lasting.cons ?_ (lasting.cons ?_ (lasting.cons ?_ (lasting.cons ?_ (lasting.cons ?_ (lasting.cons ?_ (lasting.cons ?_ (lasting.cons ?_ (lasting.cons ?_ (lasting.nil)))))))))))
    · exact fun v a b ⟨g, e, h⟩ k => ⟨g, e, h.below k h.lt⟩
    · exact fun v a b h k => h.gr k
    · exact fun v a b h k => h
    · exact fun v a b h k => h
    · exact fun v a b h k => h
    · exact fun v a b h k => h
    · exact fun v a b h k => h.gr k
    · exact fun v a b ⟨g, u2, u3, e, h, i2, i3⟩ k => ⟨g, u2, u3, e, h.below k h.lt, i2.gr k, i3.gr k⟩
    · exact fun v a b h k => h.gr k
    · exact fun v a b h k => h.gr k
    · exact fun v a b h k => h
  case steps =>
    refine steps_cons rfl ?_ (steps_cons rfl ?_ (steps_cons rfl ?_ (steps_cons rfl ?_ (steps_cons rfl ?_ (steps_cons rfl ?_ (steps_cons rfl ?_ (steps_cons rfl ?_ (steps_cons rfl ?_ (steps_cons rfl ?_ (steps_cons rfl ?_ (steps_nil)))))))))))
    · intro vals W hg hf K hK
      simp only [fillA, fillL, List.contains_cons, List.contains_nil, Nat.reduceBEq, Bool.or_false, Bool.false_or, Bool.true_or, Bool.or_true, Bool.false_eq_true, if_false, if_true, Nat.reduceAdd] at hK ⊢
      go_simp
      exact hK _ _ (Gr.alloc _ _) ⟨_, rfl, Blk.new _ _ _⟩
    · intro vals W hg hf K hK
      have f31 : (fun v W => ∃ g, v = .slice (some ⟨g, 0, none⟩) 1 1 ∧ Blk W g 5 #[.int .u8 255]) (vals 31) W := hf 0 (by kernel_rfl)
      obtain ⟨g, e, hb⟩ := f31
      simp only [fillA, fillL, List.contains_cons, List.contains_nil, Nat.reduceBEq, Bool.or_false, Bool.false_or, Bool.true_or, Bool.or_true, Bool.false_eq_true, if_false, if_true, Nat.reduceAdd, e] at hK ⊢
      go_simp
      refine (repeat_walk _ _ hb).mono ?_
      rintro e w' ⟨v, rfl, hv, hgw⟩
      go_simp
      exact hK _ _ hgw hv
    · intro vals W hg hf K hK
      simp only [fillA, fillL, List.contains_cons, List.contains_nil, Nat.reduceBEq, Bool.or_false, Bool.false_or, Bool.true_or, Bool.or_true, Bool.false_eq_true, if_false, if_true, Nat.reduceAdd] at hK ⊢
      go_simp
      exact hK _ _ (Gr.refl _) rfl
    · intro vals W hg hf K hK
      simp only [fillA, fillL, List.contains_cons, List.contains_nil, Nat.reduceBEq, Bool.or_false, Bool.false_or, Bool.true_or, Bool.or_true, Bool.false_eq_true, if_false, if_true, Nat.reduceAdd] at hK ⊢
      go_simp
      exact hK _ _ (Gr.refl _) rfl
    · intro vals W hg hf K hK
      have e34 : vals 34 = .pointer (some ⟨w.heap.size, 1, none⟩) := hf 3 (by kernel_rfl)
      have hk2 : W.cell? ⟨w.heap.size, 1, none⟩ = some (.int .i64 k) := cell_gr (W := w1) hk1 hg
      simp only [fillA, fillL, List.contains_cons, List.contains_nil, Nat.reduceBEq, Bool.or_false, Bool.false_or, Bool.true_or, Bool.or_true, Bool.false_eq_true, if_false, if_true, Nat.reduceAdd, e34] at hK ⊢
      go_simp
      exact hK _ _ (Gr.refl _) rfl
    · intro vals W hg hf K hK
      have e35 : vals 35 = .int .i64 k := hf 4 (by kernel_rfl)
      have hwk : IntKind.u8.wrap (k : Int) = k := wraps_u8 _ (by omega) (by omega)
      simp only [fillA, fillL, List.contains_cons, List.contains_nil, Nat.reduceBEq, Bool.or_false, Bool.false_or, Bool.true_or, Bool.or_true, Bool.false_eq_true, if_false, if_true, Nat.reduceAdd, e35] at hK ⊢
      go_simp
      exact hK _ _ (Gr.refl _) rfl
    · intro vals W hg hf K hK
      have e36 : vals 36 = .int .u8 k := hf 5 (by kernel_rfl)
      simp only [fillA, fillL, List.contains_cons, List.contains_nil, Nat.reduceBEq, Bool.or_false, Bool.false_or, Bool.true_or, Bool.or_true, Bool.false_eq_true, if_false, if_true, Nat.reduceAdd, e36] at hK ⊢
      go_simp
      exact hK _ _ (Gr.alloc _ _) (one_byte _ _ k k1 (Blk.new _ _ _))
    · intro vals W hg hf K hK
      have f32 : (fun v W => IsB W v (List.replicate 16 255)) (vals 32) W := hf 1 (by kernel_rfl)
      have e33 : vals 33 = .slice A1 2 c1 := hf 2 (by kernel_rfl)
      have f37 : (fun v W => IsB W v [UInt8.ofNat k]) (vals 37) W := hf 6 (by kernel_rfl)
      obtain ⟨A2, c2, e2, _⟩ := id f32
      obtain ⟨A3, c3, e3, _⟩ := id f37
      rw [e2] at f32
      rw [e3] at f37
      have i2 := Lib.hid f32
      have i3 := Lib.hid f37
      clear f32 f37
      simp only [fillA, fillL, List.contains_cons, List.contains_nil, Nat.reduceBEq, Bool.or_false, Bool.false_or, Bool.true_or, Bool.or_true, Bool.false_eq_true, if_false, if_true, Nat.reduceAdd, e33, e2, e3] at hK ⊢
      go_simp
      exact hK _ _ (Gr.alloc _ _) ⟨_, _, _, rfl, Blk.new _ _ _, i2.out.gr (Gr.alloc _ _), i3.out.gr (Gr.alloc _ _)⟩
    · intro vals W hg hf K hK
      have f38 : (fun v W => ∃ g u2 u3, v = .slice (some ⟨g, 0, none⟩) 3 3 ∧ Blk W g 24 #[u2, .slice A1 2 c1, u3] ∧ IsB W u2 (List.replicate 16 255) ∧ IsB W u3 [UInt8.ofNat k]) (vals 38) W := hf 7 (by kernel_rfl)
      obtain ⟨g, u2, u3, e, hb, i2, i3⟩ := f38
      have hl : [List.replicate 16 255, be2 n, [UInt8.ofNat k]].flatten = headB n k := by simp [headB]
      have H := cat_walk W (some ⟨g, 0, none⟩) 3 [u2, .slice A1 2 c1, u3] [List.replicate 16 255, be2 n, [UInt8.ofNat k]] 3 rfl (RC.of_block hb) (.cons i2 (.cons (o1.gr hg) (.cons i3 (.nil _)))) (by omega) (by rw [hl, headB_length]; omega)
      rw [hl] at H
      have HH := Lib.hid H
      clear H hl
      simp only [fillA, fillL, List.contains_cons, List.contains_nil, Nat.reduceBEq, Bool.or_false, Bool.false_or, Bool.true_or, Bool.or_true, Bool.false_eq_true, if_false, if_true, Nat.reduceAdd, e] at hK ⊢
      go_simp
      refine HH.out.mono ?_
      rintro e w' ⟨v, rfl, hv, hgw⟩
      go_simp
      exact hK _ _ hgw hv
    · intro vals W hg hf K hK
      have f39 : (fun v W => IsB W v (headB n k)) (vals 39) W := hf 8 (by kernel_rfl)
      simp only [fillA, fillL, List.contains_cons, List.contains_nil, Nat.reduceBEq, Bool.or_false, Bool.false_or, Bool.true_or, Bool.or_true, Bool.false_eq_true, if_false, if_true, Nat.reduceAdd] at hK ⊢
      go_simp
      exact hK _ _ (Gr.refl _) f39
    · intro vals W hg hf K hK
      simp only [fillA, fillL, List.contains_cons, List.contains_nil, Nat.reduceBEq, Bool.or_false, Bool.false_or, Bool.true_or, Bool.or_true, Bool.false_eq_true, if_false, if_true, Nat.reduceAdd] at hK ⊢
      go_simp
      exact hK _ _ (Gr.refl _) rfl
  case fin =>
    intro vals W hg hf
    have f2 : (fun v W => IsB W v (headB n k)) (vals 2) W := hf 9 (by kernel_rfl)
    have e3 : vals 3 = .bool true := hf 10 (by kernel_rfl)
    simp only [fillA, fillL, List.contains_cons, List.contains_nil, Nat.reduceBEq, Bool.or_false, Bool.false_or, Bool.true_or, Bool.or_true, Bool.false_eq_true, if_false, if_true, Nat.reduceAdd, e3]
    have hG := Lib.hid (Gr.trans B1 hg)
    have hI := Lib.hid f2
    clear f2 hg hf B1 o1 hk1
    go_wp2
    go_ret2
    exact ⟨_, rfl, hI.out, hG.out⟩

/-- Wrap where the body fits. -/
theorem wrap_fits (o0 ext o2 o3 o4 o5 : Bool) (k : Nat) (k1 : k ≤ 5) (B : Option Addr) (c : Nat) (body : List UInt8) (w : World) (hb : IsB w (.slice B body.length c) body)
    (hl : leastOf k ≠ 0) (hl1 : leastOf k ≤ 19 + body.length) (hl2 : 19 + body.length ≤ limitOf ext k) :
    Calls Tryz.prog 19 #[.agg #[.bool o0, .bool ext, .bool o2, .bool o3, .bool o4, .bool o5], .int .i64 k, .slice B body.length c] w fun e w' => ∃ v, e = .returned (.tuple #[v, .bool true]) ∧ IsB w' v (headB (19 + body.length) k ++ body) ∧ Gr w w' := by
  have hlim : limitOf ext k ≤ 65535 := by
    match k, k1 with
    | 0, _ => simp [limitOf]
    | 1, _ => simp [limitOf]
    | 2, _ => cases ext <;> simp [limitOf]
    | 3, _ => cases ext <;> simp [limitOf]
    | 4, _ => simp [limitOf]
    | 5, _ => simp [limitOf]
  have hne : ((leastOf k : Int) == 0) = false := by
    simp only [beq_eq_false_iff_ne]
    omega
  have hHb := Lib.hid hb
  have hd1 : decide ((19 : Int) + (body.length : Int) < ((leastOf k : Nat) : Int)) = false := by simp; omega
  have hd2 : decide (((limitOf ext k : Nat) : Int) < (19 : Int) + (body.length : Int)) = false := by simp; omega
  have hbl : (body.length : Int) ≤ 65516 := by omega
  clear hb
  go_enter Tryz.func19, Tryz.ntmps19
  go_wp2
  refine wp_region_by (by kernel_rfl) [0, 1, 2, 3, 4, 5, 6, 7, 8, 9, 10, 11, 12, 13, 14, 15, 16, 17] rfl [
      (fun v _ => v = .int .i64 k),
    (fun v _ => v = .int .i64 (leastOf k : Nat)),
    (fun v _ => v = .bool false),
    (fun v _ => v = .bool false),
    (fun v _ => v = .pointer (some ⟨w.heap.size + 1, 0, none⟩)),
    (fun v _ => v = .int .i64 (19 + (body.length : Int))),
    (fun v _ => v = .int .i64 k),
    (fun v _ => v = .int .i64 (leastOf k : Nat)),
    (fun v _ => v = .bool false),
    (fun v _ => v = .bool false),
    (fun v _ => v = .bool false),
    (fun v _ => v = .pointer (some ⟨w.heap.size + 1, 0, none⟩)),
    (fun v _ => v = .int .i64 (19 + (body.length : Int))),
    (fun v _ => v = .agg #[.bool o0, .bool ext, .bool o2, .bool o3, .bool o4, .bool o5]),
    (fun v _ => v = .int .i64 k),
    (fun v _ => v = .int .i64 (limitOf ext k : Nat)),
    (fun v _ => v = .bool false),
    (fun v _ => v = .bool false)] 3 [16, 17, 18, 19, 20, 21, 22, 23, 24, 25, 26, 27, 28, 29, 30, 31, 32, 33] (by kernel_rfl) ?last ?steps (by kernel_rfl) ?fin
  case last =>
    refine lasting.cons ?_ (lasting.cons ?_ (lasting.cons ?_ (lasting.cons ?_ (lasting.cons ?_ (lasting.cons ?_ (lasting.cons ?_ (lasting.cons ?_ (lasting.cons ?_ (lasting.cons ?_ (lasting.cons ?_ (lasting.cons ?_ (lasting.cons ?_ (lasting.cons ?_ (lasting.cons ?_ (lasting.cons ?_ (lasting.cons ?_ (lasting.cons ?_ (lasting.nil))))))))))))))))))
    · exact fun v a b h k => h
    · exact fun v a b h k => h
    · exact fun v a b h k => h
    · exact fun v a b h k => h
    · exact fun v a b h k => h
    · exact fun v a b h k => h
    · exact fun v a b h k => h
    · exact fun v a b h k => h
    · exact fun v a b h k => h
    · exact fun v a b h k => h
    · exact fun v a b h k => h
    · exact fun v a b h k => h
    · exact fun v a b h k => h
    · exact fun v a b h k => h
    · exact fun v a b h k => h
    · exact fun v a b h k => h
    · exact fun v a b h k => h
    · exact fun v a b h k => h
  case steps =>
    refine steps_cons rfl ?_ (steps_cons rfl ?_ (steps_cons rfl ?_ (steps_cons rfl ?_ (steps_cons rfl ?_ (steps_cons rfl ?_ (steps_cons rfl ?_ (steps_cons rfl ?_ (steps_cons rfl ?_ (steps_cons rfl ?_ (steps_cons rfl ?_ (steps_cons rfl ?_ (steps_cons rfl ?_ (steps_cons rfl ?_ (steps_cons rfl ?_ (steps_cons rfl ?_ (steps_cons rfl ?_ (steps_cons rfl ?_ (steps_nil))))))))))))))))))
    · intro vals W hg hf K hK
      simp only [fillA, fillL, List.contains_cons, List.contains_nil, Nat.reduceBEq, Bool.or_false, Bool.false_or, Bool.true_or, Bool.or_true, Bool.false_eq_true, if_false, if_true, Nat.reduceAdd] at hK ⊢
      go_simp
      exact hK _ _ (Gr.refl _) rfl
    · intro vals W hg hf K hK
      have e16 : vals 16 = .int .i64 k := hf 0 (by kernel_rfl)
      simp only [fillA, fillL, List.contains_cons, List.contains_nil, Nat.reduceBEq, Bool.or_false, Bool.false_or, Bool.true_or, Bool.or_true, Bool.false_eq_true, if_false, if_true, Nat.reduceAdd, e16] at hK ⊢
      go_simp
      refine (least_walk k _).mono ?_
      rintro e w' ⟨rfl, hgw⟩
      go_simp
      exact hK _ _ hgw rfl
    · intro vals W hg hf K hK
      have e17 : vals 17 = .int .i64 (leastOf k : Nat) := hf 1 (by kernel_rfl)
      simp only [fillA, fillL, List.contains_cons, List.contains_nil, Nat.reduceBEq, Bool.or_false, Bool.false_or, Bool.true_or, Bool.or_true, Bool.false_eq_true, if_false, if_true, Nat.reduceAdd, e17] at hK ⊢
      go_simp
      exact hK _ _ (Gr.refl _) rfl
    · intro vals W hg hf K hK
      have e18 : vals 18 = .bool false := hf 2 (by kernel_rfl)
      simp only [fillA, fillL, List.contains_cons, List.contains_nil, Nat.reduceBEq, Bool.or_false, Bool.false_or, Bool.true_or, Bool.or_true, Bool.false_eq_true, if_false, if_true, Nat.reduceAdd, e18] at hK ⊢
      go_simp
      exact hK _ _ (Gr.refl _) rfl
    · intro vals W hg hf K hK
      have e19 : vals 19 = .bool false := hf 3 (by kernel_rfl)
      simp only [fillA, fillL, List.contains_cons, List.contains_nil, Nat.reduceBEq, Bool.or_false, Bool.false_or, Bool.true_or, Bool.or_true, Bool.false_eq_true, if_false, if_true, Nat.reduceAdd, e19] at hK ⊢
      go_simp
      exact hK _ _ (Gr.refl _) rfl
    · intro vals W hg hf K hK
      have e20 : vals 20 = .pointer (some ⟨w.heap.size + 1, 0, none⟩) := hf 4 (by kernel_rfl)
      have e19 : vals 19 = .bool false := hf 3 (by kernel_rfl)
      have hk2 : W.cell? ⟨w.heap.size + 1, 0, none⟩ = some (.int .i64 (19 + (body.length : Int))) := cell_gr (by simp) hg
      simp only [fillA, fillL, List.contains_cons, List.contains_nil, Nat.reduceBEq, Bool.or_false, Bool.false_or, Bool.true_or, Bool.or_true, Bool.false_eq_true, if_false, if_true, Nat.reduceAdd, e20, e19] at hK ⊢
      go_simp
      exact hK _ _ (Gr.refl _) rfl
    · intro vals W hg hf K hK
      have e19 : vals 19 = .bool false := hf 3 (by kernel_rfl)
      simp only [fillA, fillL, List.contains_cons, List.contains_nil, Nat.reduceBEq, Bool.or_false, Bool.false_or, Bool.true_or, Bool.or_true, Bool.false_eq_true, if_false, if_true, Nat.reduceAdd, e19] at hK ⊢
      go_simp
      exact hK _ _ (Gr.refl _) rfl
    · intro vals W hg hf K hK
      have e22 : vals 22 = .int .i64 k := hf 6 (by kernel_rfl)
      have e19 : vals 19 = .bool false := hf 3 (by kernel_rfl)
      simp only [fillA, fillL, List.contains_cons, List.contains_nil, Nat.reduceBEq, Bool.or_false, Bool.false_or, Bool.true_or, Bool.or_true, Bool.false_eq_true, if_false, if_true, Nat.reduceAdd, e22, e19] at hK ⊢
      go_simp
      refine (least_walk k _).mono ?_
      rintro e w' ⟨rfl, hgw⟩
      go_simp
      exact hK _ _ hgw rfl
    · intro vals W hg hf K hK
      have e21 : vals 21 = .int .i64 (19 + (body.length : Int)) := hf 5 (by kernel_rfl)
      have e23 : vals 23 = .int .i64 (leastOf k : Nat) := hf 7 (by kernel_rfl)
      have e19 : vals 19 = .bool false := hf 3 (by kernel_rfl)
      simp only [fillA, fillL, List.contains_cons, List.contains_nil, Nat.reduceBEq, Bool.or_false, Bool.false_or, Bool.true_or, Bool.or_true, Bool.false_eq_true, if_false, if_true, Nat.reduceAdd, e21, e23, e19, hd1] at hK ⊢
      go_simp
      exact hK _ _ (Gr.refl _) rfl
    · intro vals W hg hf K hK
      have e19 : vals 19 = .bool false := hf 3 (by kernel_rfl)
      have e24 : vals 24 = .bool false := hf 8 (by kernel_rfl)
      simp only [fillA, fillL, List.contains_cons, List.contains_nil, Nat.reduceBEq, Bool.or_false, Bool.false_or, Bool.true_or, Bool.or_true, Bool.false_eq_true, if_false, if_true, Nat.reduceAdd, e19, e24] at hK ⊢
      go_simp
      exact hK _ _ (Gr.refl _) rfl
    · intro vals W hg hf K hK
      have e25 : vals 25 = .bool false := hf 9 (by kernel_rfl)
      simp only [fillA, fillL, List.contains_cons, List.contains_nil, Nat.reduceBEq, Bool.or_false, Bool.false_or, Bool.true_or, Bool.or_true, Bool.false_eq_true, if_false, if_true, Nat.reduceAdd, e25] at hK ⊢
      go_simp
      exact hK _ _ (Gr.refl _) rfl
    · intro vals W hg hf K hK
      have e26 : vals 26 = .bool false := hf 10 (by kernel_rfl)
      simp only [fillA, fillL, List.contains_cons, List.contains_nil, Nat.reduceBEq, Bool.or_false, Bool.false_or, Bool.true_or, Bool.or_true, Bool.false_eq_true, if_false, if_true, Nat.reduceAdd, e26] at hK ⊢
      go_simp
      exact hK _ _ (Gr.refl _) rfl
    · intro vals W hg hf K hK
      have e27 : vals 27 = .pointer (some ⟨w.heap.size + 1, 0, none⟩) := hf 11 (by kernel_rfl)
      have e26 : vals 26 = .bool false := hf 10 (by kernel_rfl)
      have hk2 : W.cell? ⟨w.heap.size + 1, 0, none⟩ = some (.int .i64 (19 + (body.length : Int))) := cell_gr (by simp) hg
      simp only [fillA, fillL, List.contains_cons, List.contains_nil, Nat.reduceBEq, Bool.or_false, Bool.false_or, Bool.true_or, Bool.or_true, Bool.false_eq_true, if_false, if_true, Nat.reduceAdd, e27, e26] at hK ⊢
      go_simp
      exact hK _ _ (Gr.refl _) rfl
    · intro vals W hg hf K hK
      have e26 : vals 26 = .bool false := hf 10 (by kernel_rfl)
      obtain ⟨hcl, _⟩ := gcell hg
      simp only [fillA, fillL, List.contains_cons, List.contains_nil, Nat.reduceBEq, Bool.or_false, Bool.false_or, Bool.true_or, Bool.or_true, Bool.false_eq_true, if_false, if_true, Nat.reduceAdd, e26] at hK ⊢
      go_simp
      exact hK _ _ (Gr.refl _) rfl
    · intro vals W hg hf K hK
      have e26 : vals 26 = .bool false := hf 10 (by kernel_rfl)
      simp only [fillA, fillL, List.contains_cons, List.contains_nil, Nat.reduceBEq, Bool.or_false, Bool.false_or, Bool.true_or, Bool.or_true, Bool.false_eq_true, if_false, if_true, Nat.reduceAdd, e26] at hK ⊢
      go_simp
      exact hK _ _ (Gr.refl _) rfl
    · intro vals W hg hf K hK
      have e29 : vals 29 = .agg #[.bool o0, .bool ext, .bool o2, .bool o3, .bool o4, .bool o5] := hf 13 (by kernel_rfl)
      have e30 : vals 30 = .int .i64 k := hf 14 (by kernel_rfl)
      have e26 : vals 26 = .bool false := hf 10 (by kernel_rfl)
      simp only [fillA, fillL, List.contains_cons, List.contains_nil, Nat.reduceBEq, Bool.or_false, Bool.false_or, Bool.true_or, Bool.or_true, Bool.false_eq_true, if_false, if_true, Nat.reduceAdd, e29, e30, e26] at hK ⊢
      go_simp
      refine (limit_walk k o0 ext o2 o3 o4 o5 _).mono ?_
      rintro e w' ⟨rfl, hgw⟩
      go_simp
      exact hK _ _ hgw rfl
    · intro vals W hg hf K hK
      have e28 : vals 28 = .int .i64 (19 + (body.length : Int)) := hf 12 (by kernel_rfl)
      have e31 : vals 31 = .int .i64 (limitOf ext k : Nat) := hf 15 (by kernel_rfl)
      have e26 : vals 26 = .bool false := hf 10 (by kernel_rfl)
      simp only [fillA, fillL, List.contains_cons, List.contains_nil, Nat.reduceBEq, Bool.or_false, Bool.false_or, Bool.true_or, Bool.or_true, Bool.false_eq_true, if_false, if_true, Nat.reduceAdd, e28, e31, e26, hd2] at hK ⊢
      go_simp
      exact hK _ _ (Gr.refl _) rfl
    · intro vals W hg hf K hK
      have e26 : vals 26 = .bool false := hf 10 (by kernel_rfl)
      have e32 : vals 32 = .bool false := hf 16 (by kernel_rfl)
      simp only [fillA, fillL, List.contains_cons, List.contains_nil, Nat.reduceBEq, Bool.or_false, Bool.false_or, Bool.true_or, Bool.or_true, Bool.false_eq_true, if_false, if_true, Nat.reduceAdd, e26, e32] at hK ⊢
      go_simp
      exact hK _ _ (Gr.refl _) rfl
  case fin =>
    intro vals W hg hf
    have e33 : vals 33 = .bool false := hf 17 (by kernel_rfl)
    simp only [fillA, fillL, List.contains_cons, List.contains_nil, Nat.reduceBEq, Bool.or_false, Bool.false_or, Bool.true_or, Bool.or_true, Bool.false_eq_true, if_false, if_true, Nat.reduceAdd, e33]
    obtain ⟨hcl, _⟩ := gcell hg
    have HB := Lib.hid (bytes_head (19 + body.length) k (by omega) (by omega))
    rw [show (((19 + body.length : Nat) : Nat) : Int) = 19 + (body.length : Int) by omega] at HB
    have hG := Lib.hid hg
    clear hf e33 hg hd1 hd2 hl hl1 hl2
    have hgg := Lib.hid (show Gr w W from Gr.trans (by unfold Gr; go_grown) hG.out)
    go_wp2_with (fail)
    refine (HB.out _).mono ?_
    rintro e w2 ⟨v2, rfl, i2, g2⟩
    obtain ⟨A2, c2, e2, _⟩ := id i2
    subst e2
    simp only [headB_length] at i2 ⊢
    have H2 := Lib.hid i2
    have HG := Lib.hid (Gr.trans hgg.out g2)
    clear i2 g2
    go_wp2_with (fail)
    refine (cat_two _ _ rfl _ _ _ _ H2.out (hHb.out.gr HG.out) (by rw [headB_length]; omega)).mono ?_
    rintro e w3 ⟨v3, rfl, i3, g3⟩
    go_wp2
    go_ret2
    exact ⟨_, rfl, i3, Gr.trans HG.out g3⟩
end Go.Proofs.YthkllbjfajfidaaGreat
