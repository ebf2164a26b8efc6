/- The walks of Hex: of the script package, and of the reference. -/
import Derived.Test.YtkfogknohmkbpaaGreatDoorBld
import Derived.Test.YtkfogknohmkbpaaGreatDoorShelf
import Derived.Test.YtkfogknohmkbpaaGreatDoorHexa
import Derived.Lib.Hide
import Derived.Handy
namespace Go.Proofs.YtkfogknohmkbpaaGreatDoor
open Go.RowKit

set_option maxRecDepth 100000
set_option maxHeartbeats 400000

theorem index_digit0 (w : World) : (Instr.index 9 (.string ⟨#[48, 49, 50, 51, 52, 53, 54, 55, 56, 57, 97, 98, 99, 100, 101, 102]⟩) (.int .u8 0)).run Tryz.prog w = .ok (.int .u8 48) w := by kernel_rfl
theorem index_digit1 (w : World) : (Instr.index 9 (.string ⟨#[48, 49, 50, 51, 52, 53, 54, 55, 56, 57, 97, 98, 99, 100, 101, 102]⟩) (.int .u8 1)).run Tryz.prog w = .ok (.int .u8 49) w := by kernel_rfl
theorem index_digit2 (w : World) : (Instr.index 9 (.string ⟨#[48, 49, 50, 51, 52, 53, 54, 55, 56, 57, 97, 98, 99, 100, 101, 102]⟩) (.int .u8 2)).run Tryz.prog w = .ok (.int .u8 50) w := by kernel_rfl
theorem index_digit3 (w : World) : (Instr.index 9 (.string ⟨#[48, 49, 50, 51, 52, 53, 54, 55, 56, 57, 97, 98, 99, 100, 101, 102]⟩) (.int .u8 3)).run Tryz.prog w = .ok (.int .u8 51) w := by kernel_rfl
theorem index_digit4 (w : World) : (Instr.index 9 (.string ⟨#[48, 49, 50, 51, 52, 53, 54, 55, 56, 57, 97, 98, 99, 100, 101, 102]⟩) (.int .u8 4)).run Tryz.prog w = .ok (.int .u8 52) w := by kernel_rfl
theorem index_digit5 (w : World) : (Instr.index 9 (.string ⟨#[48, 49, 50, 51, 52, 53, 54, 55, 56, 57, 97, 98, 99, 100, 101, 102]⟩) (.int .u8 5)).run Tryz.prog w = .ok (.int .u8 53) w := by kernel_rfl
theorem index_digit6 (w : World) : (Instr.index 9 (.string ⟨#[48, 49, 50, 51, 52, 53, 54, 55, 56, 57, 97, 98, 99, 100, 101, 102]⟩) (.int .u8 6)).run Tryz.prog w = .ok (.int .u8 54) w := by kernel_rfl
theorem index_digit7 (w : World) : (Instr.index 9 (.string ⟨#[48, 49, 50, 51, 52, 53, 54, 55, 56, 57, 97, 98, 99, 100, 101, 102]⟩) (.int .u8 7)).run Tryz.prog w = .ok (.int .u8 55) w := by kernel_rfl
theorem index_digit8 (w : World) : (Instr.index 9 (.string ⟨#[48, 49, 50, 51, 52, 53, 54, 55, 56, 57, 97, 98, 99, 100, 101, 102]⟩) (.int .u8 8)).run Tryz.prog w = .ok (.int .u8 56) w := by kernel_rfl
theorem index_digit9 (w : World) : (Instr.index 9 (.string ⟨#[48, 49, 50, 51, 52, 53, 54, 55, 56, 57, 97, 98, 99, 100, 101, 102]⟩) (.int .u8 9)).run Tryz.prog w = .ok (.int .u8 57) w := by kernel_rfl
theorem index_digit10 (w : World) : (Instr.index 9 (.string ⟨#[48, 49, 50, 51, 52, 53, 54, 55, 56, 57, 97, 98, 99, 100, 101, 102]⟩) (.int .u8 10)).run Tryz.prog w = .ok (.int .u8 97) w := by kernel_rfl
theorem index_digit11 (w : World) : (Instr.index 9 (.string ⟨#[48, 49, 50, 51, 52, 53, 54, 55, 56, 57, 97, 98, 99, 100, 101, 102]⟩) (.int .u8 11)).run Tryz.prog w = .ok (.int .u8 98) w := by kernel_rfl
theorem index_digit12 (w : World) : (Instr.index 9 (.string ⟨#[48, 49, 50, 51, 52, 53, 54, 55, 56, 57, 97, 98, 99, 100, 101, 102]⟩) (.int .u8 12)).run Tryz.prog w = .ok (.int .u8 99) w := by kernel_rfl
theorem index_digit13 (w : World) : (Instr.index 9 (.string ⟨#[48, 49, 50, 51, 52, 53, 54, 55, 56, 57, 97, 98, 99, 100, 101, 102]⟩) (.int .u8 13)).run Tryz.prog w = .ok (.int .u8 100) w := by kernel_rfl
theorem index_digit14 (w : World) : (Instr.index 9 (.string ⟨#[48, 49, 50, 51, 52, 53, 54, 55, 56, 57, 97, 98, 99, 100, 101, 102]⟩) (.int .u8 14)).run Tryz.prog w = .ok (.int .u8 101) w := by kernel_rfl
theorem index_digit15 (w : World) : (Instr.index 9 (.string ⟨#[48, 49, 50, 51, 52, 53, 54, 55, 56, 57, 97, 98, 99, 100, 101, 102]⟩) (.int .u8 15)).run Tryz.prog w = .ok (.int .u8 102) w := by kernel_rfl
theorem index_digit (v : Int) (h0 : 0 ≤ v) (h : v < 16) (w : World) :
    (Instr.index 9 (.string ⟨#[48, 49, 50, 51, 52, 53, 54, 55, 56, 57, 97, 98, 99, 100, 101, 102]⟩) (.int .u8 v)).run Tryz.prog w = .ok (.int .u8 ((Hex.dg v.toNat).toNat : Int)) w := by
  have hv : v = 0 ∨ v = 1 ∨ v = 2 ∨ v = 3 ∨ v = 4 ∨ v = 5 ∨ v = 6 ∨ v = 7 ∨ v = 8 ∨ v = 9 ∨ v = 10 ∨ v = 11 ∨ v = 12 ∨ v = 13 ∨ v = 14 ∨ v = 15 := by omega
  rcases hv with rfl | rfl | rfl | rfl | rfl | rfl | rfl | rfl | rfl | rfl | rfl | rfl | rfl | rfl | rfl | rfl
  · exact index_digit0 w
  · exact index_digit1 w
  · exact index_digit2 w
  · exact index_digit3 w
  · exact index_digit4 w
  · exact index_digit5 w
  · exact index_digit6 w
  · exact index_digit7 w
  · exact index_digit8 w
  · exact index_digit9 w
  · exact index_digit10 w
  · exact index_digit11 w
  · exact index_digit12 w
  · exact index_digit13 w
  · exact index_digit14 w
  · exact index_digit15 w

theorem hex_walk (A : Option Addr) (n c : Nat) (l : List UInt8) (w : World) (hn : l.length = n) (hn2 : n ≤ 1000) (hr : Reads w w.heap.size 1 A n (Lib.byteCells l)) :
    Calls Tryz.prog 5 #[.slice A n c] w fun e w' => e = .returned (.string ⟨(Hex.hex l).toArray⟩) ∧ Below w.heap.size w w' := by
  go_enter Tryz.func5, Tryz.ntmps5
  go_wp2
  go_loopw [8] (fun i wr => ∃ k : Nat, k ≤ n ∧ i = .int .i64 k ∧ Lib.IsBuilder 32 5 w.heap.size w.heap.size (Lib.byteCells (Hex.hex (l.take k))) wr ∧ Below w.heap.size w wr) (fun i _ => n - (intOf i).toNat)
  case atStart => exact ⟨0, Nat.zero_le _, rfl, by simpa [Hex.hex, Lib.byteCells] using Lib.fresh_isBuilder 32 5 w, by go_grown⟩
  case round =>
    obtain ⟨k, hk, rfl, hbl, hbw⟩ := hrel
    by_cases hlt : k < n
    · obtain ⟨ad, u, rfl, _, hx, hc⟩ := (hr.below hbw).at_ hlt
      have hlk : k < l.length := by omega
      obtain rfl : u = .int .u8 ((l[k]).toNat : Int) := by
        simp [Lib.byteCells, hlk] at hx
        exact hx.symm
      clear hx
      have hb := (l[k]).toNat_lt
      have hi1 := index_digit ((l[k].toNat : Int) / 16) (by omega) (by omega)
      have hi2 := index_digit ((l[k].toNat : Int) % 16) (by omega) (by omega)
      have hlen : (Lib.byteCells (Hex.hex (l.take k))).length ≤ 2 * k := by simp [Lib.byteCells, Hex.hex_length]; omega
      go_wp2_with (go_at_call 11; refine (bld_byte _ _ _ _ _ hbl (by omega) hbw.size).mono ?_; rintro e w1 ⟨rfl, hbl1, hb1⟩; clear hbl)
      have hs1 : w.heap.size ≤ w1.heap.size := by have := hb1.size; have := hbw.size; omega
      go_wp2_with (go_at_call 11; refine (bld_byte _ _ _ _ _ (.inr hbl1) (by simp; omega) hs1).mono ?_; rintro e w2 ⟨rfl, hbl2, hb2⟩)
      go_roundw
      case rel =>
        refine ⟨k + 1, by omega, by go_num, ?_, hbw.trans (hb1.trans hb2)⟩
        have e : Lib.byteCells (Hex.hex (l.take (k + 1))) = Lib.byteCells (Hex.hex (l.take k)) ++ [.int .u8 ((Hex.dg (l[k].toNat / 16)).toNat : Int)] ++ [.int .u8 ((Hex.dg (l[k].toNat % 16)).toNat : Int)] := by
          rw [List.take_succ_eq_append_getElem hlk, Hex.hex_append]
          simp [Lib.byteCells, Hex.hex]
        rw [e]
        exact .inr hbl2
      case measure => simp [intOf]; omega
    · have hkn : n ≤ k := by omega
      go_wp2_with (go_at_call 12; refine (Tryz.Builder_String_any _ _ _ _ hbl hbw.size).mono ?_; rintro e w3 ⟨rfl, hb3⟩)
      go_ret
      exact ⟨by rw [List.take_of_length_le (by omega)]; rfl, hbw.trans hb3⟩
end Go.Proofs.YtkfogknohmkbpaaGreatDoor
