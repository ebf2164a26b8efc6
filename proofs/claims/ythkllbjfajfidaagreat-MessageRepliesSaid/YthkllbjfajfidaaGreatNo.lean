/- Walks of finding.Proper, bytes.Clone, the notice package. -/
import Derived.Test.YthkllbjfajfidaaGreatHw
import Derived.WalkSpells
namespace Go.Proofs.YthkllbjfajfidaaGreat
open Go.RowKit

set_option maxRecDepth 100000
set_option maxHeartbeats 1000000
set_option linter.unusedSimpArgs false

/-- A verdict as a value. -/
def verdV (k c s : Int) (d : Value) (a : Int) : Value := .agg #[.int .i64 k, .int .i64 c, .int .i64 s, d, .int .i64 a]

theorem proper_yes (c s a : Int) (A : Option Addr) (n cap : Nat) (hc : 1 ≤ c) (hc6 : c ≤ 6) (hs : 0 ≤ s) (hs2 : s ≤ 255) (ha : 0 ≤ a) (w : World) :
    Calls Tryz.prog 20 #[.agg #[.int .i64 4, .int .i64 c, .int .i64 s, .slice A n cap, .int .i64 a]] w fun e w' => e = .returned (.bool true) ∧ Gr w w' := by
  have g1 : (c == 0) = false := by simp; omega
  go_enter Tryz.func20, Tryz.ntmps20
  go_wp2
  all_goals
    go_ret
    exact ⟨rfl, (by unfold Gr; go_grown)⟩

theorem clone_walk (w : World) (v : Value) (l : List UInt8) (hb : IsB w v l) (hl : l.length ≤ 1000000) :
    Calls Tryz.prog 21 #[v] w fun e w' => ∃ u, e = .returned u ∧ IsB w' u l ∧ Gr w w' := by
  obtain ⟨A, c, rfl, h1, h2, h3⟩ := hb
  cases A with
  | none =>
    have hn : l = [] := by
      cases l with
      | nil => rfl
      | cons x l =>
        obtain ⟨ad, h, _⟩ := h3.at_ (k := 0) (by simp)
        cases h
    subst hn
    have he : ∀ W, (binOp .eql 24 (.slice none 0 c) (.slice none 0 0)).run Tryz.prog W = .ok (.bool true) W := fun W => Lib.run_eql_slice_nil (P := Tryz.prog) W 24 5 none 0 c 0 0 Tryz.underlying24
    go_enter Tryz.func21, Tryz.ntmps21
    go_wp2
    go_ret
    exact ⟨_, rfl, IsB.nil _, Gr.refl _⟩
  | some ad =>
    obtain ⟨i0, hi, hz0, hz1, hz2⟩ := info_parts byte_info
    have he : ∀ W, (binOp .eql 24 (.slice (some ad) l.length c) (.slice none 0 0)).run Tryz.prog W = .ok (.bool false) W := fun W => Lib.run_eql_slice_nil (P := Tryz.prog) W 24 5 (some ad) l.length c 0 0 Tryz.underlying24
    have hR := Lib.hid h3.reads
    clear h3 h1 h2
    go_enter Tryz.func21, Tryz.ntmps21
    go_wp2_with (at_builtin; refine wpList_append_any _ rfl _ _ 24 rfl w.heap.size 5 i0 (.int .u8 0) 1 1 Tryz.underlying24 hi hz0 hz1 hz2 rfl (by decide) _ _ _ rfl (World.ownsRow_lit w #[] 0 (Nat.le_refl _) (Nat.zero_le _) rfl) w.heap.size (some ad) l.length c (cellsB l) rfl (hR.out.alloc (Nat.le_refl _) _) (cellsB_one _) ?c3 ?c4 ?c5 ?_)
    case c3 => unfold maxLen; omega
    case c4 => omega
    case c5 => simp
    intro v' w3 hown3 hg3 _
    have hown := Lib.hid hown3
    have hgr : Gr w w3 := ((Below.refl w.heap.size w).alloc (Nat.le_refl _) _).grown hg3 (by simp) (fun k hk => by simp [Value.ownBlock] at hk; omega)
    clear hown3 hg3
    go_wp2
    go_ret
    exact ⟨_, rfl, IsB.of_own hown.out rfl, hgr⟩

theorem valid_note (c s : Int) (A : Option Addr) (n cap : Nat) (hc : 0 ≤ c) (hc6 : c ≤ 255) (hs : 0 ≤ s) (hs2 : s ≤ 255) (hn : n ≤ 65514) (w : World) :
    Calls Tryz.prog 178 #[.agg #[.int .i64 c, .int .i64 s, .slice A n cap]] w fun e w' => e = .returned (.bool true) ∧ Gr w w' := by
  have hd : decide ((n : Int) ≤ 65514) = true := by simp; omega
  go_enter Tryz.func178, Tryz.ntmps178
  go_wp2
  all_goals
    go_ret
    exact ⟨rfl, (by unfold Gr; go_grown)⟩

def noteB (c s : Int) (l : List UInt8) : List UInt8 := [UInt8.ofNat c.toNat, UInt8.ofNat s.toNat] ++ l
theorem two_bytes (w : World) (g : Nat) (c s : Int) (hc : 0 ≤ c) (hc6 : c ≤ 255) (hs : 0 ≤ s) (hs2 : s ≤ 255) (h : Blk w g 5 #[.int .u8 c, .int .u8 s]) : IsB w (.slice (some ⟨g, 0, none⟩) 2 2) [UInt8.ofNat c.toNat, UInt8.ofNat s.toNat] := by
  refine IsB.of_block h ?_ rfl (Nat.le_refl _) (by unfold maxLen; omega)
  simp only [cellsB, List.map_cons, List.map_nil, byteV_ofNat]
  have e1 : ((c.toNat % 256 : Nat) : Int) = c := by omega
  have e2 : ((s.toNat % 256 : Nat) : Int) = s := by omega
  rw [e1, e2]
theorem bytes_note (c s : Int) (A : Option Addr) (cap : Nat) (l : List UInt8) (hc : 0 ≤ c) (hc6 : c ≤ 255) (hs : 0 ≤ s) (hs2 : s ≤ 255) (hn : l.length ≤ 65514) (w : World) (hb : IsB w (.slice A l.length cap) l) :
    Calls Tryz.prog 175 #[.agg #[.int .i64 c, .int .i64 s, .slice A l.length cap]] w fun e w' => ∃ v, e = .returned (.tuple #[v, .bool true]) ∧ IsB w' v (noteB c s l) ∧ Gr w w' := by
  have hH := Lib.hid hb
  clear hb
  go_enter Tryz.func175, Tryz.ntmps175
  go_wp2_with (fail)
  refine (valid_note c s A l.length cap hc hc6 hs hs2 hn _).mono ?_
  rintro e w1 ⟨rfl, g1⟩
  obtain ⟨hcl, _⟩ := gcell g1
  have hz : w.heap.size < w1.heap.size := by have := g1.size; simp at this; omega
  have G1 := Lib.hid (show Gr w w1 from Gr.trans (Gr.alloc _ _) g1)
  clear g1
  go_wp2_with (fail)
  have GG := Lib.hid (Gr.trans G1.out (Gr.alloc w1 (.cells #[.int .u8 c, .int .u8 s] 5)))
  refine (cat_two (w1.alloc _) _ (by simp) _ _ [UInt8.ofNat c.toNat, UInt8.ofNat s.toNat] l (two_bytes _ _ c s hc hc6 hs hs2 (Blk.new _ _ _)) (hH.out.gr GG.out) (by simp; omega)).mono ?_
  rintro e w2 ⟨v, rfl, h2, g2⟩
  have G2 := Lib.hid (Gr.trans GG.out g2)
  have h2' := Lib.hid h2
  clear g2 h2
  go_wp2
  go_ret2
  exact ⟨_, rfl, h2'.out, G2.out⟩
end Go.Proofs.YthkllbjfajfidaaGreat
