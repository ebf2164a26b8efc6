/- The walk of message.Bytes at a notification. -/
import Derived.Test.YthkllbjfajfidaaGreatMb
import Derived.Test.YthkllbjfajfidaaGreatMe
import Derived.Test.YthkllbjfajfidaaGreatIt
namespace Go.Proofs.YthkllbjfajfidaaGreat
open Go.RowKit

set_option maxRecDepth 100000
set_option maxHeartbeats 2000000
set_option linter.unusedSimpArgs false

theorem bodies_any (k a h i : Int) (A : Option Addr) (n1 c1 : Nat) (c s : Int) (B : Option Addr) (n2 c2 : Nat) (w : World) :
    Calls Tryz.prog 18 #[.agg (msgC k a h i (.slice A n1 c1) c s (.slice B n2 c2))] w fun e w' => ∃ r, e = .returned (.map (some r)) ∧ w'.heap[r]? = some (.map (bodE a h i (.slice A n1 c1) c s (.slice B n2 c2)) 5) ∧ w.heap.size ≤ r ∧ Gr w w' := by
  refine (bodies_walk k a h i A n1 c1 c s B n2 c2 w).mono ?_
  rintro e w' ⟨rfl, rfl⟩
  refine ⟨_, rfl, ?_, by omega, (by unfold Gr; go_grown)⟩
  have := heap_alloc_new (w.alloc (.cells (msgC k a h i (.slice A n1 c1) c s (.slice B n2 c2)) 41)) (.map (bodE a h i (.slice A n1 c1) c s (.slice B n2 c2)) 5)
  simpa using this
theorem bodE_nodup (a h i : Int) (caps : Value) (c s : Int) (d : Value) : ((bodE a h i caps c s d).toList.map (·.born)).Nodup := by simp [bodE]
theorem bodE_born (a h i : Int) (caps : Value) (c s : Int) (d : Value) : ∀ x ∈ (bodE a h i caps c s d).toList, x.born < 5 := by
  intro x hx
  simp [bodE] at hx
  rcases hx with rfl | rfl | rfl | rfl | rfl <;> simp

theorem blk6 {w : World} {g : Nat} {t : TypeId} {a b c d e f : Value} (h : Blk w g t #[a, b, c, d, e, f]) : w.cell? ⟨g, 0, none⟩ = some a ∧ w.cell? ⟨g, 1, none⟩ = some b ∧ w.cell? ⟨g, 2, none⟩ = some c ∧ w.cell? ⟨g, 3, none⟩ = some d ∧ w.cell? ⟨g, 4, none⟩ = some e ∧ w.cell? ⟨g, 5, none⟩ = some f :=
  ⟨h.cell 0, h.cell 1, h.cell 2, h.cell 3, h.cell 4, h.cell 5⟩
theorem msg_note (o0 ext o2 o3 o4 o5 : Bool) (c s : Int) (B : Option Addr) (cp : Nat) (l : List UInt8) (hc : 0 ≤ c) (hc6 : c ≤ 255) (hs : 0 ≤ s) (hs2 : s ≤ 255) (hl : l.length ≤ 4000) (w : World) (hb : IsB w (.slice B l.length cp) l) :
    Calls Tryz.prog 10 #[.agg #[.bool o0, .bool ext, .bool o2, .bool o3, .bool o4, .bool o5], .agg (msgC 3 0 0 0 (.slice none 0 0) c s (.slice B l.length cp))] w fun e w' => ∃ v, e = .returned (.tuple #[v, .bool true]) ∧ IsB w' v (headB (21 + l.length) 3 ++ noteB c s l) ∧ Gr w w' := by
  have hB := Lib.hid hb
  clear hb
  have HBod := Lib.hid (bodies_any 3 0 0 0 none 0 0 c s B l.length cp)
  unfold msgC at HBod ⊢
  go_enter Tryz.func10, Tryz.ntmps10
  go_wp2_with (fail)
  refine (HBod.out _).mono ?_
  rintro e w1 ⟨r, rfl, hmap, hr, g1⟩
  obtain ⟨hcl, hfr⟩ := gcell g1
  have kO := Lib.hid (Blk.below (w' := w1) ((Blk.new w 23 #[.bool o0, .bool ext, .bool o2, .bool o3, .bool o4, .bool o5]).alloc _) g1 (by simp; omega))
  have hz : w.heap.size + 1 < w1.heap.size := by have := g1.size; simp at this; omega
  have hrw : w.heap.size + 1 < r := by simp at hr; omega
  have G1 := Lib.hid (show Gr w w1 from Gr.trans (by unfold Gr; go_grown) g1)
  have hlk : ∀ W : World, W.heap[r]? = some (.map (bodE 0 0 0 (.slice none 0 0) c s (.slice B l.length cp)) 5) → (Instr.lookup 69 (.map (some r)) (.int .i64 3) true).run Tryz.prog W = .ok (.tuple #[.iface 89 (.agg #[.int .i64 c, .int .i64 s, .slice B l.length cp]), .bool true]) W := fun W hW =>
    run_lookup_hit (P := Tryz.prog) Tryz.underlying69 Tryz.underlying3 (.int .i64 3) (fun b w => map_int b 3 w) W r _ 5 hW 2 _ rfl
  have hlk1 := hlk w1 hmap
  have hrg := run_range_map (P := Tryz.prog) w1 69 3 72 r _ 5 Tryz.underlying69 hmap
  have HM := Lib.hid hmap
  clear g1 hlk hmap hr
  go_wp2_with (fail)
  have hrm : r ≠ w1.heap.size := by have := (Array.getElem?_eq_some_iff.1 HM.out).1; omega
  have hkind : w1.cell? ⟨w.heap.size + 1, 0, none⟩ = some (.int .i64 3) := by rw [hcl _ _ (by simp)]; simp
  have hk := Lib.hid hkind
  have hcl' := Lib.hid hcl
  clear hkind hlk1 hrg hcl hfr
  go_loopw [8] (fun ok wr => ok = .bool true ∧ ∃ seen, IterIn wr w1.heap.size r 5 seen ∧ wr.heap[r]? = some (.map (bodE 0 0 0 (.slice none 0 0) c s (.slice B l.length cp)) 5) ∧ Gr w1 wr) (fun _ wr => (leftOf (bodE 0 0 0 (.slice none 0 0) c s (.slice B l.length cp)) (wr.iterSeen w1.heap.size)).size)
  case atStart =>
    refine ⟨rfl, #[], heap_alloc_new w1 _, ?_, Gr.alloc _ _⟩
    rw [heap_alloc_old w1 _ (Array.getElem?_eq_some_iff.1 HM.out).1]
    exact HM.out
  case round =>
    obtain ⟨rfl, seen, hi, hm, hG⟩ := hrel
    have hseen : wr.iterSeen w1.heap.size = seen := by unfold World.iterSeen; unfold IterIn at hi; rw [hi]
    rcases iter_step (P := Tryz.prog) w1 wr 0 w1.heap.size r 5 seen _ (Nat.le_refl _) hi hm hrm hG (bodE_born _ _ _ _ _ _ _) (bodE_nodup _ _ _ _ _ _ _) with ⟨h0, hrun⟩ | ⟨e, he, w2, hrun, hen, hi2, hlt, hm2, hG2⟩
    · have hH := Lib.hid hG
      obtain ⟨q0, q1, q2, q3, q4, q5⟩ := blk6 (kO.out.below hG kO.out.lt)
      have hk2 : wr.cell? ⟨w.heap.size + 1, 0, none⟩ = some (.int .i64 3) := cell_gr hk.out hG
      clear hi hm hseen h0 hG
      have HG := Lib.hid (Gr.trans G1.out hH.out)
      go_wp2_with (fail)
      refine (note_bytes c s B cp l o0 ext o2 o3 o4 o5 hc hc6 hs hs2 (by omega) _ (hB.out.gr HG.out)).mono ?_
      rintro e w3 ⟨v3, rfl, hv3, g3⟩
      obtain ⟨A3, c3, e3, _⟩ := id hv3
      subst e3
      have hln : (noteB c s l).length = 2 + l.length := by simp [noteB]; omega
      have hv3' := Lib.hid hv3
      obtain ⟨q0', q1', q2', q3', q4', q5'⟩ := blk6 ((kO.out.below hH.out kO.out.lt).below g3 (kO.out.below hH.out kO.out.lt).lt)
      have hk3 : w3.cell? ⟨w.heap.size + 1, 0, none⟩ = some (.int .i64 3) := cell_gr hk2 g3
      have HW := Lib.hid (wrap_fits o0 ext o2 o3 o4 o5 3 (by omega) A3 c3 (noteB c s l) w3 hv3 (by simp [leastOf]) (by rw [hln]; simp [leastOf]; omega) (by rw [hln]; cases ext <;> simp [limitOf] <;> omega))
      rw [hln] at HW ⊢
      have G3 := Lib.hid (Gr.trans HG.out g3)
      clear hv3 g3 q0 q1 q2 q3 q4 q5 hk2 hln
      go_wp2_with (fail)
      refine HW.out.mono ?_
      rintro e w4 ⟨v4, rfl, hv4, g4⟩
      have hv4 := Lib.hid hv4
      have G4 := Lib.hid (Gr.trans G3.out g4)
      clear g4
      go_wp2
      go_ret2
      refine ⟨v4, rfl, ?_, G4.out⟩
      have := hv4.out
      rw [show 19 + (2 + l.length) = 21 + l.length by omega] at this
      exact this
    · simp [bodE] at he
      have hs := Lib.hid hseen
      have hlt := Lib.hid hlt
      have hi2 := Lib.hid hi2
      have hm2 := Lib.hid hm2
      have hG2 := Lib.hid hG2
      have hk2 : w2.cell? ⟨w.heap.size + 1, 0, none⟩ = some (.int .i64 3) := cell_gr hk.out hG2.out
      clear hi hm hseen hG
      have hend : ∀ w3 : World, Gr w2 w3 → (∃ seen', IterIn w3 w1.heap.size r 5 seen' ∧ w3.heap[r]? = some (.map (bodE 0 0 0 (.slice none 0 0) c s (.slice B l.length cp)) 5) ∧ Gr w1 w3) ∧ (leftOf (bodE 0 0 0 (.slice none 0 0) c s (.slice B l.length cp)) (w3.iterSeen w1.heap.size)).size < (leftOf (bodE 0 0 0 (.slice none 0 0) c s (.slice B l.length cp)) (wr.iterSeen w1.heap.size)).size := by
        intro w3 g3
        have k1 := hi2.out.gr g3
        refine ⟨⟨_, k1, (Below.block g3 r (Array.getElem?_eq_some_iff.1 hm2.out).1).trans hm2.out, Gr.trans hG2.out g3⟩, ?_⟩
        rw [hs.out]
        have : w3.iterSeen w1.heap.size = seen.push e.born := by unfold World.iterSeen; unfold IterIn at k1; rw [k1]
        rw [this]
        exact hlt.out
      have hend := Lib.hid hend
      clear hlt hi2 hm2 hs
      rcases he with rfl | rfl | rfl | rfl | rfl
      · dsimp only at hrun hen
        go_wp2_with (fail)
        refine (opening_empty _).mono ?_
        rintro e w3 ⟨rfl, g3⟩
        have g3 := Lib.hid g3
        go_wp2
        go_roundw
        case rel => exact ⟨rfl, (hend.out w3 g3.out).1⟩
        case measure => exact (hend.out w3 g3.out).2
      · dsimp only at hrun hen
        go_wp2_with (fail)
        refine (change_empty _).mono ?_
        rintro e w3 ⟨rfl, g3⟩
        have g3 := Lib.hid g3
        go_wp2
        go_roundw
        case rel => exact ⟨rfl, (hend.out w3 g3.out).1⟩
        case measure => exact (hend.out w3 g3.out).2
      · dsimp only at hrun hen
        go_wp2
        go_roundw
        case rel => exact ⟨rfl, (hend.out w2 (Gr.refl _)).1⟩
        case measure => exact (hend.out w2 (Gr.refl _)).2
      · dsimp only at hrun hen
        go_wp2_with (fail)
        refine (request_empty _).mono ?_
        rintro e w3 ⟨rfl, g3⟩
        have g3 := Lib.hid g3
        go_wp2
        go_roundw
        case rel => exact ⟨rfl, (hend.out w3 g3.out).1⟩
        case measure => exact (hend.out w3 g3.out).2
      · dsimp only at hrun hen
        go_wp2_with (fail)
        refine (alive_empty _).mono ?_
        rintro e w3 ⟨rfl, g3⟩
        have g3 := Lib.hid g3
        go_wp2
        go_roundw
        case rel => exact ⟨rfl, (hend.out w3 g3.out).1⟩
        case measure => exact (hend.out w3 g3.out).2
end Go.Proofs.YthkllbjfajfidaaGreat
