/- Walks of the octet package: Put, Cat. -/
import Derived.Test.YthkllbjfajfidaaGreatSl
import Derived.BigRegion
namespace Go.Proofs.YthkllbjfajfidaaGreat
open Go.RowKit

set_option maxRecDepth 100000
set_option maxHeartbeats 1000000

def be2 (n : Nat) : List UInt8 := [UInt8.ofNat (n / 256), UInt8.ofNat n]
def be4 (n : Nat) : List UInt8 := [UInt8.ofNat (n / 16777216), UInt8.ofNat (n / 65536), UInt8.ofNat (n / 256), UInt8.ofNat n]
theorem be2_length (n : Nat) : (be2 n).length = 2 := rfl
theorem be4_length (n : Nat) : (be4 n).length = 4 := rfl

theorem byteV_ofNat (n : Nat) : byteV (UInt8.ofNat n) = .int .u8 ((n % 256 : Nat) : Int) := by
  unfold byteV
  rw [UInt8.toNat_ofNat']
theorem be2_cells (x : Int) (h0 : 0 ≤ x) (h1 : x ≤ 65535) : (#[.int .u8 (x / 256), .int .u8 (x % 256)] : Array Value).toList = cellsB (be2 x.toNat) := by
  simp only [cellsB, be2, List.map_cons, List.map_nil, byteV_ofNat]
  have e1 : ((x.toNat / 256 % 256 : Nat) : Int) = x / 256 := by omega
  have e2 : ((x.toNat % 256 : Nat) : Int) = x % 256 := by omega
  rw [e1, e2]
theorem be4_cells (x : Int) (h0 : 0 ≤ x) (h1 : x ≤ 4294967295) : (#[.int .u8 (x / 16777216), .int .u8 (x / 65536 % 256), .int .u8 (x / 256 % 256), .int .u8 (x % 256)] : Array Value).toList = cellsB (be4 x.toNat) := by
  simp only [cellsB, be4, List.map_cons, List.map_nil, byteV_ofNat]
  have e1 : ((x.toNat / 16777216 % 256 : Nat) : Int) = x / 16777216 := by omega
  have e2 : ((x.toNat / 65536 % 256 : Nat) : Int) = x / 65536 % 256 := by omega
  have e3 : ((x.toNat / 256 % 256 : Nat) : Int) = x / 256 % 256 := by omega
  have e4 : ((x.toNat % 256 : Nat) : Int) = x % 256 := by omega
  rw [e1, e2, e3, e4]

theorem put_two (x : Int) (h0 : 0 ≤ x) (h1 : x ≤ 65535) (w : World) : Calls Tryz.prog 36 #[.int .i64 2, .int .u32 x] w fun e w' => ∃ v, e = .returned (.tuple #[v, .bool true]) ∧ IsB w' v (be2 x.toNat) ∧ Gr w w' := by
  obtain ⟨i0, hi, hz0, hz1, hz2⟩ := info_parts byte_info
  have hmk := fun W => run_make (P := Tryz.prog) (w := W) 24 5 i0 _ Tryz.underlying24 hi hz0 .i64 .i64 2 2 (by omega) (by omega) (by rw [hz2]; omega) (by omega)
  simp only [hz1] at hmk
  have e2 : Int.toNat 2 = 2 := rfl
  have e3 : madeCells (Value.int .u8 0).cells (2 * 1) = #[.int .u8 0, .int .u8 0] := by kernel_rfl
  simp only [e2, e3] at hmk
  clear e2 e3 hi hz0 hz1 hz2
  go_enter Tryz.func36, Tryz.ntmps36
  go_wp2
  refine wp_loop_rounds 3 ?_
  rw [rounds_succ]
  go_wp2
  rw [rounds_succ]
  go_wp2
  rw [rounds_succ]
  go_wp2
  refine bodyPost_ret (v := .tuple #[.slice (some ⟨w.heap.size, 0, none⟩) 2 2, .bool true]) (by simp [results, Tryz.results36, go_sem]) rfl ⟨_, rfl, IsB.of_block (Blk.new w _ _) ?_ rfl (Nat.le_refl _) (by unfold maxLen; omega), by unfold Gr; go_grown⟩
  exact be2_cells x h0 h1

theorem put_four (x : Int) (h0 : 0 ≤ x) (h1 : x ≤ 4294967295) (w : World) : Calls Tryz.prog 36 #[.int .i64 4, .int .u32 x] w fun e w' => ∃ v, e = .returned (.tuple #[v, .bool true]) ∧ IsB w' v (be4 x.toNat) ∧ Gr w w' := by
  obtain ⟨i0, hi, hz0, hz1, hz2⟩ := info_parts byte_info
  have hmk := fun W => run_make (P := Tryz.prog) (w := W) 24 5 i0 _ Tryz.underlying24 hi hz0 .i64 .i64 4 4 (by omega) (by omega) (by rw [hz2]; omega) (by omega)
  simp only [hz1] at hmk
  have e2 : Int.toNat 4 = 4 := rfl
  have e3 : madeCells (Value.int .u8 0).cells (4 * 1) = #[.int .u8 0, .int .u8 0, .int .u8 0, .int .u8 0] := by kernel_rfl
  simp only [e2, e3] at hmk
  clear e2 e3 hi hz0 hz1 hz2
  go_enter Tryz.func36, Tryz.ntmps36
  go_wp2
  refine wp_loop_rounds 5 ?_
  rw [rounds_succ]
  go_wp2
  rw [rounds_succ]
  go_wp2
  rw [rounds_succ]
  go_wp2
  rw [rounds_succ]
  go_wp2
  rw [rounds_succ]
  go_wp2
  refine bodyPost_ret (v := .tuple #[.slice (some ⟨w.heap.size, 0, none⟩) 4 4, .bool true]) (by simp [results, Tryz.results36, go_sem]) rfl ⟨_, rfl, IsB.of_block (Blk.new w _ _) ?_ rfl (Nat.le_refl _) (by unfold maxLen; omega), by unfold Gr; go_grown⟩
  exact be4_cells x h0 h1

theorem cat_walk (w : World) (A : Option Addr) (c : Nat) (vs : List Value) (ls : List (List UInt8)) (k : Nat) (hk : ls.length = k) (hP : RC w A vs) (hI : IsParts w vs ls) (hK : k ≤ 1000000) (hT : ls.flatten.length ≤ 1000000) :
    Calls Tryz.prog 31 #[.slice A k c] w fun e w' => ∃ v, e = .returned v ∧ IsB w' v ls.flatten ∧ Gr w w' := by
  have H := Lib.hid (concat_walk w A c vs ls k hk hP hI hK hT)
  clear hk hP hI hK hT
  go_enter Tryz.func31, Tryz.ntmps31
  go_wp2_with (go_at_call 38; refine H.out.mono ?_; rintro e w' ⟨v, rfl, h1, h2⟩)
  go_ret
  exact ⟨v, rfl, h1, h2⟩

/-- Cat of a slice of parts that was just laid. -/
theorem cat_new (W : World) (b : Nat) (hb : W.heap.size = b) (cs : Array Value) (ls : List (List UInt8)) (k : Nat) (hk : ls.length = k) (hI : IsParts W cs.toList ls) (hK : k ≤ 1000000) (hT : ls.flatten.length ≤ 1000000) :
    Calls Tryz.prog 31 #[.slice (some ⟨b, 0, none⟩) k k] (W.alloc (.cells cs 24)) fun e w' => ∃ v, e = .returned v ∧ IsB w' v ls.flatten ∧ Gr W w' := by
  subst hb
  refine (cat_walk _ (some ⟨W.heap.size, 0, none⟩) k cs.toList ls k hk (RC.of_block (Blk.new W _ _)) (hI.gr (Gr.alloc _ _)) hK hT).mono ?_
  rintro e w' ⟨v, rfl, h1, h2⟩
  exact ⟨v, rfl, h1, (Gr.alloc _ _).trans h2⟩
theorem cat_two (W : World) (b : Nat) (hb : W.heap.size = b) (v1 v2 : Value) (l1 l2 : List UInt8) (i1 : IsB W v1 l1) (i2 : IsB W v2 l2) (hT : l1.length + l2.length ≤ 1000000) :
    Calls Tryz.prog 31 #[.slice (some ⟨b, 0, none⟩) 2 2] (W.alloc (.cells #[v1, v2] 24)) fun e w' => ∃ v, e = .returned v ∧ IsB w' v (l1 ++ l2) ∧ Gr W w' := by
  have e : [l1, l2].flatten = l1 ++ l2 := by simp
  have h := cat_new W b hb #[v1, v2] [l1, l2] 2 rfl (.cons i1 (.cons i2 (.nil _))) (by omega) (by rw [e, List.length_append]; exact hT)
  rw [e] at h
  exact h
end Go.Proofs.YthkllbjfajfidaaGreat
