/- Walks of the reference's Same functions where both sides are the same and have neither updates nor capabilities. -/
import Derived.Test.YthkllbjfajfidaaGreatRa
import Derived.Test.YthkllbjfajfidaaGreatProg
import Derived.Handy
import Derived.Laws.StructEq
namespace Go.Proofs.YthkllbjfajfidaaGreat
open Go.RowKit

set_option maxRecDepth 100000
set_option maxHeartbeats 1000000
set_option linter.unusedSimpArgs false

theorem same01 (v u : Value) (l : List UInt8) (w : World) (hv : IsB w v l) (hu : IsB w u l) : Calls Tryz.prog 26 #[v, u] w fun e w' => e = .returned (.bool true) ∧ Gr w w' := by
  have h1 := run_string (P := Tryz.prog) w 24 9 5 Tryz.underlying24 Tryz.underlying5 Tryz.underlying9 v l hv
  have h2 := run_string (P := Tryz.prog) w 24 9 5 Tryz.underlying24 Tryz.underlying5 Tryz.underlying9 u l hu
  obtain ⟨A1, c1, rfl, _⟩ := hv
  obtain ⟨A2, c2, rfl, _⟩ := hu
  go_enter Tryz.func26, Tryz.ntmps26
  go_wp2
  go_ret
  exact ⟨by simp, Gr.refl _⟩
theorem same16 (w : World) : Calls Tryz.prog 23 #[.slice none 0 0, .slice none 0 0] w fun e w' => e = .returned (.bool true) ∧ Gr w w' := by
  go_enter Tryz.func23, Tryz.ntmps23
  go_wp2
  refine wp_loop_rounds 1 ?_
  rw [rounds_succ]
  go_wp2
  go_ret
  exact ⟨rfl, Gr.refl _⟩
theorem same14 (w : World) : Calls Tryz.prog 25 #[.slice none 0 0, .slice none 0 0] w fun e w' => e = .returned (.bool true) ∧ Gr w w' := by
  go_enter Tryz.func25, Tryz.ntmps25
  go_wp2
  refine wp_loop_rounds 1 ?_
  rw [rounds_succ]
  go_wp2
  go_ret
  exact ⟨rfl, Gr.refl _⟩
theorem same03 (w : World) : Calls Tryz.prog 24 #[.slice none 0 0, .slice none 0 0] w fun e w' => e = .returned (.bool true) ∧ Gr w w' := by
  go_enter Tryz.func24, Tryz.ntmps24
  go_wp2
  refine wp_loop_rounds 1 ?_
  rw [rounds_succ]
  go_wp2
  go_ret
  exact ⟨rfl, Gr.refl _⟩
theorem same17 (w : World) : Calls Tryz.prog 14 #[.agg #[.int .u32 0, .int .i64 0, .int .u32 0, .slice none 0 0], .agg #[.int .u32 0, .int .i64 0, .int .u32 0, .slice none 0 0]] w fun e w' => e = .returned (.bool true) ∧ Gr w w' := by
  go_enter Tryz.func14, Tryz.ntmps14
  go_wp2_with (fail)
  refine (same16 _).mono ?_
  rintro e w1 ⟨rfl, g1⟩
  have G1 := Lib.hid (show Gr w w1 from Gr.trans (by unfold Gr; go_grown) g1)
  clear g1
  go_wp2
  go_ret
  exact ⟨rfl, G1.out⟩
theorem blk3 {w : World} {g : Nat} {t : TypeId} {a b c : Value} (h : Blk w g t #[a, b, c]) : w.cell? ⟨g, 0, none⟩ = some a ∧ w.cell? ⟨g, 1, none⟩ = some b ∧ w.cell? ⟨g, 2, none⟩ = some c := ⟨h.cell 0, h.cell 1, h.cell 2⟩
theorem same15 (w : World) : Calls Tryz.prog 15 #[.agg #[.slice none 0 0, .slice none 0 0, .slice none 0 0], .agg #[.slice none 0 0, .slice none 0 0, .slice none 0 0]] w fun e w' => e = .returned (.bool true) ∧ Gr w w' := by
  go_enter Tryz.func15, Tryz.ntmps15
  go_wp2_with (fail)
  refine (same03 _).mono ?_
  rintro e w1 ⟨rfl, g1⟩
  have kA := ((Blk.new w 47 #[.slice none 0 0, .slice none 0 0, .slice none 0 0]).alloc (.cells #[.slice none 0 0, .slice none 0 0, .slice none 0 0] 47)).below g1 (by simp; omega)
  have kB := (Blk.nat (w.alloc (.cells #[.slice none 0 0, .slice none 0 0, .slice none 0 0] 47)) (w.heap.size + 1) (by simp) 47 #[.slice none 0 0, .slice none 0 0, .slice none 0 0]).below g1 (by simp)
  obtain ⟨p0, p1, p2⟩ := blk3 kA
  obtain ⟨q0, q1, q2⟩ := blk3 kB
  have kA := Lib.hid kA
  have kB := Lib.hid kB
  have G1 := Lib.hid (show Gr w w1 from Gr.trans (by unfold Gr; go_grown) g1)
  clear g1
  go_wp2_with (fail)
  refine (same14 _).mono ?_
  rintro e w2 ⟨rfl, g2⟩
  obtain ⟨r0, r1, r2⟩ := blk3 (kA.out.below g2 kA.out.lt)
  obtain ⟨s0, s1, s2⟩ := blk3 (kB.out.below g2 kB.out.lt)
  have G2 := Lib.hid (Gr.trans G1.out g2)
  clear g2 p0 p1 p2 q0 q1 q2
  go_wp2_with (fail)
  refine (same03 _).mono ?_
  rintro e w3 ⟨rfl, g3⟩
  have G3 := Lib.hid (Gr.trans G2.out g3)
  clear g3
  go_wp2
  go_ret
  exact ⟨rfl, G3.out⟩
theorem same18 (c s : Int) (A B : Option Addr) (ca cb : Nat) (l : List UInt8) (w : World) (ha : IsB w (.slice A l.length ca) l) (hb : IsB w (.slice B l.length cb) l) : Calls Tryz.prog 16 #[.agg #[.int .i64 c, .int .i64 s, .slice A l.length ca], .agg #[.int .i64 c, .int .i64 s, .slice B l.length cb]] w fun e w' => e = .returned (.bool true) ∧ Gr w w' := by
  have hA := Lib.hid ha
  have hB := Lib.hid hb
  clear ha hb
  go_enter Tryz.func16, Tryz.ntmps16
  go_wp2_with (fail)
  refine (same01 _ _ l _ (hA.out.gr (by unfold Gr; go_grown)) (hB.out.gr (by unfold Gr; go_grown))).mono ?_
  rintro e w1 ⟨rfl, g1⟩
  have G1 := Lib.hid (show Gr w w1 from Gr.trans (by unfold Gr; go_grown) g1)
  clear g1
  go_wp2
  go_ret
  exact ⟨rfl, G1.out⟩
end Go.Proofs.YthkllbjfajfidaaGreat
