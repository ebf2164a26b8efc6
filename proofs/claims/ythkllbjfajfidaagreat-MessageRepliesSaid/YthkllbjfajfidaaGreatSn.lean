/- The walk of the reference's Same at messages. -/
import Derived.Test.YthkllbjfajfidaaGreatSm
import Derived.Test.YthkllbjfajfidaaGreatMs
namespace Go.Proofs.YthkllbjfajfidaaGreat
open Go.RowKit

set_option maxRecDepth 100000
set_option maxHeartbeats 2000000
set_option linter.unusedSimpArgs false

def L14 (k c s : Int) (B : Option Addr) (n cp : Nat) : Array Value := #[.int .i64 k, .int .u32 0, .int .i64 0, .int .u32 0, .slice none 0 0, .slice none 0 0, .slice none 0 0, .slice none 0 0, .int .i64 c, .int .i64 s, .slice B n cp, .int .i64 0, .int .i64 0, .int .i64 0]
theorem l14a {w : World} {g : Nat} {t : TypeId} {k c s : Int} {B : Option Addr} {n cp : Nat} (h : Blk w g t (L14 k c s B n cp)) : w.cell? ⟨g, 5, none⟩ = some (.slice none 0 0) ∧ w.cell? ⟨g, 6, none⟩ = some (.slice none 0 0) ∧ w.cell? ⟨g, 7, none⟩ = some (.slice none 0 0) := ⟨h.cell 5, h.cell 6, h.cell 7⟩
theorem l14b {w : World} {g : Nat} {t : TypeId} {k c s : Int} {B : Option Addr} {n cp : Nat} (h : Blk w g t (L14 k c s B n cp)) : w.cell? ⟨g, 8, none⟩ = some (.int .i64 c) ∧ w.cell? ⟨g, 9, none⟩ = some (.int .i64 s) ∧ w.cell? ⟨g, 10, none⟩ = some (.slice B n cp) := ⟨h.cell 8, h.cell 9, h.cell 10⟩
theorem l14c {w : World} {g : Nat} {t : TypeId} {k c s : Int} {B : Option Addr} {n cp : Nat} (h : Blk w g t (L14 k c s B n cp)) : w.cell? ⟨g, 11, none⟩ = some (.int .i64 0) ∧ w.cell? ⟨g, 12, none⟩ = some (.int .i64 0) ∧ w.cell? ⟨g, 13, none⟩ = some (.int .i64 0) := ⟨h.cell 11, h.cell 12, h.cell 13⟩
theorem same20 (k c s : Int) (A B : Option Addr) (ca cb : Nat) (l : List UInt8) (w : World) (ha : IsB w (.slice A l.length ca) l) (hb : IsB w (.slice B l.length cb) l) :
    Calls Tryz.prog 7 #[.agg (msgC k 0 0 0 (.slice none 0 0) c s (.slice A l.length ca)), .agg (msgC k 0 0 0 (.slice none 0 0) c s (.slice B l.length cb))] w fun e w' => e = .returned (.bool true) ∧ Gr w w' := by
  have hA := Lib.hid ha
  have hB := Lib.hid hb
  clear ha hb
  have kA := Lib.hid ((Blk.new w 51 (L14 k c s A l.length ca)).alloc (.cells (L14 k c s B l.length cb) 51))
  have kB := Lib.hid (Blk.nat (w.alloc (.cells (L14 k c s A l.length ca) 51)) (w.heap.size + 1) (by simp) 51 (L14 k c s B l.length cb))
  have kA' := kA
  have kB' := kB
  unfold L14 at kA' kB'
  unfold msgC
  go_enter Tryz.func7, Tryz.ntmps7
  go_wp2_with (fail)
  refine (same17 _).mono ?_
  rintro e w1 ⟨rfl, g1⟩
  have kA1 := Lib.hid (kA'.out.below g1 kA'.out.lt)
  have kB1 := Lib.hid (kB'.out.below g1 kB'.out.lt)
  obtain ⟨p0, p1, p2⟩ := l14a kA1.out
  obtain ⟨q0, q1, q2⟩ := l14a kB1.out
  have G1 := Lib.hid (show Gr w w1 from Gr.trans (by unfold Gr; go_grown) g1)
  clear g1 kA kB kA' kB'
  go_wp2_with (fail)
  refine (same15 _).mono ?_
  rintro e w2 ⟨rfl, g2⟩
  have kA2 := Lib.hid (kA1.out.below g2 kA1.out.lt)
  have kB2 := Lib.hid (kB1.out.below g2 kB1.out.lt)
  clear p0 p1 p2 q0 q1 q2
  obtain ⟨p0, p1, p2⟩ := l14b kA2.out
  obtain ⟨q0, q1, q2⟩ := l14b kB2.out
  have G2 := Lib.hid (Gr.trans G1.out g2)
  clear g2 kA1 kB1
  go_wp2_with (fail)
  refine (same18 c s A B ca cb l _ (hA.out.gr G2.out) (hB.out.gr G2.out)).mono ?_
  rintro e w3 ⟨rfl, g3⟩
  obtain ⟨r0, r1, r2⟩ := l14c (kA2.out.below g3 kA2.out.lt)
  obtain ⟨s0, s1, s2⟩ := l14c (kB2.out.below g3 kB2.out.lt)
  have G3 := Lib.hid (Gr.trans G2.out g3)
  clear p0 p1 p2 q0 q1 q2 g3 kA2 kB2
  go_wp2
  go_ret
  exact ⟨rfl, G3.out⟩
end Go.Proofs.YthkllbjfajfidaaGreat
