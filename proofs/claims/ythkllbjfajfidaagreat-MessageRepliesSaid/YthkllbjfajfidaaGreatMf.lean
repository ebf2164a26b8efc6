/- Walks of message.Valid, message.Text at a keepalive, the law's example. -/
import Derived.Test.YthkllbjfajfidaaGreatMd
namespace Go.Proofs.YthkllbjfajfidaaGreat
open Go.RowKit

set_option maxRecDepth 100000
set_option maxHeartbeats 2000000
set_option linter.unusedSimpArgs false

theorem valid_msg_note (o0 ext o2 o3 o4 o5 : Bool) (c s : Int) (B : Option Addr) (cp : Nat) (l : List UInt8) (hc : 0 ≤ c) (hc6 : c ≤ 255) (hs : 0 ≤ s) (hs2 : s ≤ 255) (hl : l.length ≤ 4000) (w : World) (hb : IsB w (.slice B l.length cp) l) :
    Calls Tryz.prog 9 #[.agg #[.bool o0, .bool ext, .bool o2, .bool o3, .bool o4, .bool o5], .agg (msgC 3 0 0 0 (.slice none 0 0) c s (.slice B l.length cp))] w fun e w' => e = .returned (.bool true) ∧ Gr w w' := by
  have hB := Lib.hid hb
  clear hb
  have H := Lib.hid (msg_note o0 ext o2 o3 o4 o5 c s B cp l hc hc6 hs hs2 hl)
  unfold msgC at H ⊢
  go_enter Tryz.func9, Tryz.ntmps9
  go_wp2_with (fail)
  refine (H.out _ (hB.out.gr (by unfold Gr; go_grown))).mono ?_
  rintro e w1 ⟨v, rfl, hv, g1⟩
  have G1 := Lib.hid (show Gr w w1 from Gr.trans (by unfold Gr; go_grown) g1)
  clear g1 hv
  go_wp2
  go_ret
  exact ⟨rfl, G1.out⟩
theorem valid_msg_alive (o0 ext o2 o3 o4 o5 : Bool) (w : World) :
    Calls Tryz.prog 9 #[.agg #[.bool o0, .bool ext, .bool o2, .bool o3, .bool o4, .bool o5], .agg (msgC 4 0 0 0 (.slice none 0 0) 0 0 (.slice none 0 0))] w fun e w' => e = .returned (.bool true) ∧ Gr w w' := by
  have H := Lib.hid (msg_alive o0 ext o2 o3 o4 o5)
  unfold msgC at H ⊢
  go_enter Tryz.func9, Tryz.ntmps9
  go_wp2_with (fail)
  refine (H.out _).mono ?_
  rintro e w1 ⟨v, rfl, hv, g1⟩
  have G1 := Lib.hid (show Gr w w1 from Gr.trans (by unfold Gr; go_grown) g1)
  clear g1 hv
  go_wp2
  go_ret
  exact ⟨rfl, G1.out⟩
theorem miss_one (want : Array (String × TypeId)) (got : Array Method) (s : String) (h : (want.toList.filter fun (p : String × TypeId) => !got.any fun m => m.name == p.1 && m.sig == p.2).map (·.1) = [s]) : (Instr.missingMethod want got).isSome = true := by
  unfold Instr.missingMethod
  have h' : (want.toList.filter fun (name, sig) => !got.any fun m => m.name == name && m.sig == sig).map (·.1) = [s] := h
  rw [h']
  simp only [List.partition, List.partition.loop]
  split <;> simp [Instr.least]
theorem miss_text : (Instr.missingMethod #[("peerage/message.text", 79)] Tryz.t92.methods).isSome = true := miss_one _ _ "peerage/message.text" (by kernel_rfl)
theorem zero_worded (W : World) : (zeroValue 77).run Tryz.prog W = .ok .nilIface W := by kernel_rfl
theorem assert_alive (W : World) : (Instr.typeAssert (.iface 92 (.agg #[])) 72 77 true).run Tryz.prog W = .ok (.tuple #[.nilIface, .bool false]) W := by
  have h := miss_text
  have hz := zero_worded
  simp [Instr.typeAssert]
  cases hm : Instr.missingMethod #[("peerage/message.text", 79)] Tryz.t92.methods with
  | none => rw [hm] at h; cases h
  | some m => simp [hz]
theorem text_alive (o0 ext o2 o3 o4 o5 : Bool) (w : World) :
    Calls Tryz.prog 11 #[.agg #[.bool o0, .bool ext, .bool o2, .bool o3, .bool o4, .bool o5], .agg (msgC 4 0 0 0 (.slice none 0 0) 0 0 (.slice none 0 0))] w fun e w' => e = .returned (.string ⟨#[107, 101, 101, 112, 97, 108, 105, 118, 101]⟩) ∧ Gr w w' := by
  have H := Lib.hid (valid_msg_alive o0 ext o2 o3 o4 o5)
  have HBod := Lib.hid (bodies_any 4 0 0 0 none 0 0 0 0 none 0 0)
  have hlk := Lib.hid (show ∀ (W : World) (r : Nat), W.heap[r]? = some (.map (bodE 0 0 0 (.slice none 0 0) 0 0 (.slice none 0 0)) 5) → (Instr.lookup 69 (.map (some r)) (.int .i64 4) false).run Tryz.prog W = .ok (.iface 92 (.agg #[])) W from fun W r hW =>
    run_lookup_hit1 (P := Tryz.prog) Tryz.underlying69 Tryz.underlying3 (.int .i64 4) (fun b w => map_int b 4 w) W r _ 5 hW 4 _ rfl)
  unfold msgC at H HBod ⊢
  go_enter Tryz.func11, Tryz.ntmps11
  go_wp2_with (fail)
  refine (H.out _).mono ?_
  rintro e w1 ⟨rfl, g1⟩
  have kM := Lib.hid (Blk.below (w' := w1) (Blk.nat (w.alloc (.cells #[.bool o0, .bool ext, .bool o2, .bool o3, .bool o4, .bool o5] 23)) (w.heap.size + 1) (by simp) 41 #[.int .i64 4, .int .u32 0, .int .i64 0, .int .u32 0, .slice none 0 0, .slice none 0 0, .slice none 0 0, .slice none 0 0, .int .i64 0, .int .i64 0, .slice none 0 0, .int .i64 0, .int .i64 0, .int .i64 0]) g1 (by simp))
  have G1 := Lib.hid (show Gr w w1 from Gr.trans (by unfold Gr; go_grown) g1)
  clear g1
  go_wp2_with (fail)
  refine wp_region_by (by kernel_rfl) [0, 1, 2, 3, 4, 5, 6, 7, 8, 9, 10] rfl [
      (fun v _ => v = .agg #[.int .i64 4, .int .u32 0, .int .i64 0, .int .u32 0, .slice none 0 0, .slice none 0 0, .slice none 0 0, .slice none 0 0, .int .i64 0, .int .i64 0, .slice none 0 0, .int .i64 0, .int .i64 0, .int .i64 0]),
    (fun v W => ∃ r, v = .map (some r) ∧ W.heap[r]? = some (.map (bodE 0 0 0 (.slice none 0 0) 0 0 (.slice none 0 0)) 5)),
    (fun v _ => v = .pointer (some ⟨w.heap.size + 1, 0, none⟩)),
    (fun v _ => v = .int .i64 4),
    (fun v _ => v = .iface 92 (.agg #[])),
    (fun v _ => v = .tuple #[.nilIface, .bool false]),
    (fun v _ => v = .tuple #[.nilIface, .bool false]),
    (fun v _ => v = .nilIface),
    (fun v _ => v = .bool false),
    (fun v _ => v = .nilIface),
    (fun v _ => v = .bool false)] 2 [12, 13, 14, 15, 16, 17, 11, 18, 19, 5, 6] (by kernel_rfl) ?last ?steps (by kernel_rfl) ?fin
  case last =>
    refine lasting.cons ?_ (lasting.cons ?_ (lasting.cons ?_ (lasting.cons ?_ (lasting.cons ?_ (lasting.cons ?_ (lasting.cons ?_ (lasting.cons ?_ (lasting.cons ?_ (lasting.cons ?_ (lasting.cons ?_ (lasting.nil)))))))))))
    · exact fun v a b h k => h
    · exact fun v a b ⟨r, e, h⟩ k => ⟨r, e, (Below.block k r (Array.getElem?_eq_some_iff.1 h).1).trans h⟩
    · exact fun v a b h k => h
    · exact fun v a b h k => h
    · exact fun v a b h k => h
    · exact fun v a b h k => h
    · exact fun v a b h k => h
    · exact fun v a b h k => h
    · exact fun v a b h k => h
    · exact fun v a b h k => h
    · exact fun v a b h k => h
  case steps =>
    refine steps_cons rfl ?_ (steps_cons rfl ?_ (steps_cons rfl ?_ (steps_cons rfl ?_ (steps_cons rfl ?_ (steps_cons rfl ?_ (steps_cons rfl ?_ (steps_cons rfl ?_ (steps_cons rfl ?_ (steps_cons rfl ?_ (steps_cons rfl ?_ (steps_nil)))))))))))
    · intro vals W hg hf K hK
      have kW := kM.out.below hg kM.out.lt
      have d0 : W.cell? ⟨w.heap.size + 1, 0, none⟩ = some (.int .i64 4) := kW.cell 0
      have d1 : W.cell? ⟨w.heap.size + 1, 1, none⟩ = some (.int .u32 0) := kW.cell 1
      have d2 : W.cell? ⟨w.heap.size + 1, 2, none⟩ = some (.int .i64 0) := kW.cell 2
      have d3 : W.cell? ⟨w.heap.size + 1, 3, none⟩ = some (.int .u32 0) := kW.cell 3
      have d4 : W.cell? ⟨w.heap.size + 1, 4, none⟩ = some (.slice none 0 0) := kW.cell 4
      have d5 : W.cell? ⟨w.heap.size + 1, 5, none⟩ = some (.slice none 0 0) := kW.cell 5
      have d6 : W.cell? ⟨w.heap.size + 1, 6, none⟩ = some (.slice none 0 0) := kW.cell 6
      have d7 : W.cell? ⟨w.heap.size + 1, 7, none⟩ = some (.slice none 0 0) := kW.cell 7
      have d8 : W.cell? ⟨w.heap.size + 1, 8, none⟩ = some (.int .i64 0) := kW.cell 8
      have d9 : W.cell? ⟨w.heap.size + 1, 9, none⟩ = some (.int .i64 0) := kW.cell 9
      have d10 : W.cell? ⟨w.heap.size + 1, 10, none⟩ = some (.slice none 0 0) := kW.cell 10
      have d11 : W.cell? ⟨w.heap.size + 1, 11, none⟩ = some (.int .i64 0) := kW.cell 11
      have d12 : W.cell? ⟨w.heap.size + 1, 12, none⟩ = some (.int .i64 0) := kW.cell 12
      have d13 : W.cell? ⟨w.heap.size + 1, 13, none⟩ = some (.int .i64 0) := kW.cell 13
      clear kW
      simp only [fillA, fillL, List.contains_cons, List.contains_nil, Nat.reduceBEq, Bool.or_false, Bool.false_or, Bool.true_or, Bool.or_true, Bool.false_eq_true, if_false, if_true, Nat.reduceAdd] at hK ⊢
      go_simp
      exact hK _ _ (Gr.refl _) rfl
    · intro vals W hg hf K hK
      have e12 : vals 12 = .agg #[.int .i64 4, .int .u32 0, .int .i64 0, .int .u32 0, .slice none 0 0, .slice none 0 0, .slice none 0 0, .slice none 0 0, .int .i64 0, .int .i64 0, .slice none 0 0, .int .i64 0, .int .i64 0, .int .i64 0] := hf 0 (by kernel_rfl)
      simp only [fillA, fillL, List.contains_cons, List.contains_nil, Nat.reduceBEq, Bool.or_false, Bool.false_or, Bool.true_or, Bool.or_true, Bool.false_eq_true, if_false, if_true, Nat.reduceAdd, e12] at hK ⊢
      go_simp
      refine (HBod.out _).mono ?_
      rintro e w' ⟨r, rfl, hv, _, hgw⟩
      go_simp
      exact hK _ _ hgw ⟨r, rfl, hv⟩
    · intro vals W hg hf K hK
      simp only [fillA, fillL, List.contains_cons, List.contains_nil, Nat.reduceBEq, Bool.or_false, Bool.false_or, Bool.true_or, Bool.or_true, Bool.false_eq_true, if_false, if_true, Nat.reduceAdd] at hK ⊢
      go_simp
      exact hK _ _ (Gr.refl _) rfl
    · intro vals W hg hf K hK
      have e14 : vals 14 = .pointer (some ⟨w.heap.size + 1, 0, none⟩) := hf 2 (by kernel_rfl)
      have d0 : W.cell? ⟨w.heap.size + 1, 0, none⟩ = some (.int .i64 4) := (kM.out.below hg kM.out.lt).cell 0
      simp only [fillA, fillL, List.contains_cons, List.contains_nil, Nat.reduceBEq, Bool.or_false, Bool.false_or, Bool.true_or, Bool.or_true, Bool.false_eq_true, if_false, if_true, Nat.reduceAdd, e14] at hK ⊢
      go_simp
      exact hK _ _ (Gr.refl _) rfl
    · intro vals W hg hf K hK
      have f13 : (fun v W => ∃ r, v = .map (some r) ∧ W.heap[r]? = some (.map (bodE 0 0 0 (.slice none 0 0) 0 0 (.slice none 0 0)) 5)) (vals 13) W := hf 1 (by kernel_rfl)
      have e15 : vals 15 = .int .i64 4 := hf 3 (by kernel_rfl)
      obtain ⟨r, er, hr⟩ := f13
      have q := hlk.out W r hr
      simp only [fillA, fillL, List.contains_cons, List.contains_nil, Nat.reduceBEq, Bool.or_false, Bool.false_or, Bool.true_or, Bool.or_true, Bool.false_eq_true, if_false, if_true, Nat.reduceAdd, e15, er] at hK ⊢
      go_simp
      exact hK _ _ (Gr.refl _) rfl
    · intro vals W hg hf K hK
      have e16 : vals 16 = .iface 92 (.agg #[]) := hf 4 (by kernel_rfl)
      have hta := assert_alive
      simp only [fillA, fillL, List.contains_cons, List.contains_nil, Nat.reduceBEq, Bool.or_false, Bool.false_or, Bool.true_or, Bool.or_true, Bool.false_eq_true, if_false, if_true, Nat.reduceAdd, e16] at hK ⊢
      go_simp
      exact hK _ _ (Gr.refl _) rfl
    · intro vals W hg hf K hK
      have e17 : vals 17 = .tuple #[.nilIface, .bool false] := hf 5 (by kernel_rfl)
      simp only [fillA, fillL, List.contains_cons, List.contains_nil, Nat.reduceBEq, Bool.or_false, Bool.false_or, Bool.true_or, Bool.or_true, Bool.false_eq_true, if_false, if_true, Nat.reduceAdd, e17] at hK ⊢
      go_simp
      exact hK _ _ (Gr.refl _) rfl
    · intro vals W hg hf K hK
      have e11 : vals 11 = .tuple #[.nilIface, .bool false] := hf 6 (by kernel_rfl)
      simp only [fillA, fillL, List.contains_cons, List.contains_nil, Nat.reduceBEq, Bool.or_false, Bool.false_or, Bool.true_or, Bool.or_true, Bool.false_eq_true, if_false, if_true, Nat.reduceAdd, e11] at hK ⊢
      go_simp
      exact hK _ _ (Gr.refl _) rfl
    · intro vals W hg hf K hK
      have e11 : vals 11 = .tuple #[.nilIface, .bool false] := hf 6 (by kernel_rfl)
      simp only [fillA, fillL, List.contains_cons, List.contains_nil, Nat.reduceBEq, Bool.or_false, Bool.false_or, Bool.true_or, Bool.or_true, Bool.false_eq_true, if_false, if_true, Nat.reduceAdd, e11] at hK ⊢
      go_simp
      exact hK _ _ (Gr.refl _) rfl
    · intro vals W hg hf K hK
      have e18 : vals 18 = .nilIface := hf 7 (by kernel_rfl)
      simp only [fillA, fillL, List.contains_cons, List.contains_nil, Nat.reduceBEq, Bool.or_false, Bool.false_or, Bool.true_or, Bool.or_true, Bool.false_eq_true, if_false, if_true, Nat.reduceAdd, e18] at hK ⊢
      go_simp
      exact hK _ _ (Gr.refl _) rfl
    · intro vals W hg hf K hK
      have e19 : vals 19 = .bool false := hf 8 (by kernel_rfl)
      simp only [fillA, fillL, List.contains_cons, List.contains_nil, Nat.reduceBEq, Bool.or_false, Bool.false_or, Bool.true_or, Bool.or_true, Bool.false_eq_true, if_false, if_true, Nat.reduceAdd, e19] at hK ⊢
      go_simp
      exact hK _ _ (Gr.refl _) rfl
  case fin =>
    intro vals W hg hf
    have e6 : vals 6 = .bool false := hf 10 (by kernel_rfl)
    simp only [fillA, fillL, List.contains_cons, List.contains_nil, Nat.reduceBEq, Bool.or_false, Bool.false_or, Bool.true_or, Bool.or_true, Bool.false_eq_true, if_false, if_true, Nat.reduceAdd, e6]
    have hG := Lib.hid (Gr.trans G1.out hg)
    clear hg hf
    go_wp2
    go_ret
    exact ⟨rfl, hG.out⟩
end Go.Proofs.YthkllbjfajfidaaGreat
