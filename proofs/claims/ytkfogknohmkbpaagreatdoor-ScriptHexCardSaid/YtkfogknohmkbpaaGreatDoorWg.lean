/- The walks of the values of digits, of the reference's Hex. -/
import Derived.Test.YtkfogknohmkbpaaGreatDoorWf
import Derived.IntWalk
namespace Go.Proofs.YtkfogknohmkbpaaGreatDoor
open Go.RowKit

set_option maxRecDepth 100000
set_option maxHeartbeats 400000

theorem ret_int {k : IntKind} {a b : Int} (h : a = b) : Ending.returned (.int k a) = .returned (.int k b) := by rw [h]
/-- The value of a digit as the program has it: -1 for what is none. -/
def vi (x : UInt8) : Int := if Hex.val x < 16 then (Hex.val x : Int) else -1
theorem vi_idx : ∀ n : Nat, n < 103 → Lib.indexByte [48, 49, 50, 51, 52, 53, 54, 55, 56, 57, 97, 98, 99, 100, 101, 102] n.toUInt8 = vi n.toUInt8 := by decide +kernel
theorem vi_none (x : UInt8) (h : 102 < x.toNat) : vi x = -1 := by
  unfold vi Hex.val
  rw [if_neg (c := 48 ≤ x.toNat ∧ x.toNat ≤ 57) (by omega), if_neg (c := 97 ≤ x.toNat ∧ x.toNat ≤ 102) (by omega)]
  rfl

theorem value_small (x : UInt8) (h : x.toNat ≤ 102) (w : World) : Calls Tryz.prog 13 #[.int .i32 (x.toNat : Int)] w fun e w' => e = .returned (.int .i64 (vi x)) ∧ w = w' := by
  have hI := Tryz.strings_IndexByte ⟨#[48, 49, 50, 51, 52, 53, 54, 55, 56, 57, 97, 98, 99, 100, 101, 102]⟩ (x.toNat : Int) w
  have e := vi_idx x.toNat (by omega)
  have e2 : x.toNat.toUInt8 = x := by simp
  rw [e2] at e
  simp only [Int.toNat_natCast, e2, e] at hI
  have H := Lib.hid hI
  clear hI e e2
  go_enter Tryz.func13, Tryz.ntmps13
  go_wp2_with (go_at_call 22; refine H.out.mono ?_; rintro e w' ⟨rfl, rfl⟩)
  go_ret
  exact ⟨rfl, rfl⟩
theorem value_great (c : Int) (h : 102 < c) (w : World) : Calls Tryz.prog 13 #[.int .i32 c] w fun e w' => e = .returned (.int .i64 (-1)) ∧ w = w' := by
  go_enter Tryz.func13, Tryz.ntmps13
  go_wp2
  go_ret
  exact ⟨rfl, rfl⟩

theorem ref_value (x : UInt8) (w : World) : Calls Tryz.prog 14 #[.int .u8 (x.toNat : Int)] w fun e w' => e = .returned (.int .i64 (Hex.val x : Int)) ∧ w = w' := by
  have hx := x.toNat_lt
  by_cases h1 : 48 ≤ x.toNat ∧ x.toNat ≤ 57
  · have hv : Hex.val x = x.toNat - 48 := by unfold Hex.val; rw [if_pos h1]
    obtain ⟨h1, h2⟩ := h1
    have HV := Lib.hid hv
    clear hv
    go_enter Tryz.func14, Tryz.ntmps14
    go_wp2
    go_ret
    exact ⟨ret_int (by rw [HV.out]; omega), rfl⟩
  · by_cases h2 : 97 ≤ x.toNat ∧ x.toNat ≤ 102
    · have hv : Hex.val x = x.toNat - 87 := by unfold Hex.val; rw [if_neg h1, if_pos h2]
      obtain ⟨h2, h3⟩ := h2
      have h4 : ¬ x.toNat ≤ 57 := by omega
      have HV := Lib.hid hv
      clear hv h1
      go_enter Tryz.func14, Tryz.ntmps14
      go_wp2
      go_ret
      exact ⟨ret_int (by rw [HV.out]; omega), rfl⟩
    · have hv : Hex.val x = 16 := by unfold Hex.val; rw [if_neg h1, if_neg h2]
      have HV := Lib.hid hv
      clear hv
      have HH : (x.toNat < 48 ∨ 57 < x.toNat) ∧ (x.toNat < 97 ∨ 102 < x.toNat) := by omega
      clear h1 h2
      rcases HH with ⟨h1 | h1, h2 | h2⟩
      all_goals first | (exfalso; omega) | skip
      all_goals
        go_enter Tryz.func14, Tryz.ntmps14
        go_wp2
        go_ret
        exact ⟨by rw [HV.out]; rfl, rfl⟩

theorem slice_digit0 (w : World) : (Instr.slice 9 (.string ⟨#[48, 49, 50, 51, 52, 53, 54, 55, 56, 57, 97, 98, 99, 100, 101, 102]⟩) (some (.int .u8 0)) (some (.int .u8 1)) none).run Tryz.prog w = .ok (.string ⟨#[48]⟩) w := by kernel_rfl
theorem slice_digit1 (w : World) : (Instr.slice 9 (.string ⟨#[48, 49, 50, 51, 52, 53, 54, 55, 56, 57, 97, 98, 99, 100, 101, 102]⟩) (some (.int .u8 1)) (some (.int .u8 2)) none).run Tryz.prog w = .ok (.string ⟨#[49]⟩) w := by kernel_rfl
theorem slice_digit2 (w : World) : (Instr.slice 9 (.string ⟨#[48, 49, 50, 51, 52, 53, 54, 55, 56, 57, 97, 98, 99, 100, 101, 102]⟩) (some (.int .u8 2)) (some (.int .u8 3)) none).run Tryz.prog w = .ok (.string ⟨#[50]⟩) w := by kernel_rfl
theorem slice_digit3 (w : World) : (Instr.slice 9 (.string ⟨#[48, 49, 50, 51, 52, 53, 54, 55, 56, 57, 97, 98, 99, 100, 101, 102]⟩) (some (.int .u8 3)) (some (.int .u8 4)) none).run Tryz.prog w = .ok (.string ⟨#[51]⟩) w := by kernel_rfl
theorem slice_digit4 (w : World) : (Instr.slice 9 (.string ⟨#[48, 49, 50, 51, 52, 53, 54, 55, 56, 57, 97, 98, 99, 100, 101, 102]⟩) (some (.int .u8 4)) (some (.int .u8 5)) none).run Tryz.prog w = .ok (.string ⟨#[52]⟩) w := by kernel_rfl
theorem slice_digit5 (w : World) : (Instr.slice 9 (.string ⟨#[48, 49, 50, 51, 52, 53, 54, 55, 56, 57, 97, 98, 99, 100, 101, 102]⟩) (some (.int .u8 5)) (some (.int .u8 6)) none).run Tryz.prog w = .ok (.string ⟨#[53]⟩) w := by kernel_rfl
theorem slice_digit6 (w : World) : (Instr.slice 9 (.string ⟨#[48, 49, 50, 51, 52, 53, 54, 55, 56, 57, 97, 98, 99, 100, 101, 102]⟩) (some (.int .u8 6)) (some (.int .u8 7)) none).run Tryz.prog w = .ok (.string ⟨#[54]⟩) w := by kernel_rfl
theorem slice_digit7 (w : World) : (Instr.slice 9 (.string ⟨#[48, 49, 50, 51, 52, 53, 54, 55, 56, 57, 97, 98, 99, 100, 101, 102]⟩) (some (.int .u8 7)) (some (.int .u8 8)) none).run Tryz.prog w = .ok (.string ⟨#[55]⟩) w := by kernel_rfl
theorem slice_digit8 (w : World) : (Instr.slice 9 (.string ⟨#[48, 49, 50, 51, 52, 53, 54, 55, 56, 57, 97, 98, 99, 100, 101, 102]⟩) (some (.int .u8 8)) (some (.int .u8 9)) none).run Tryz.prog w = .ok (.string ⟨#[56]⟩) w := by kernel_rfl
theorem slice_digit9 (w : World) : (Instr.slice 9 (.string ⟨#[48, 49, 50, 51, 52, 53, 54, 55, 56, 57, 97, 98, 99, 100, 101, 102]⟩) (some (.int .u8 9)) (some (.int .u8 10)) none).run Tryz.prog w = .ok (.string ⟨#[57]⟩) w := by kernel_rfl
theorem slice_digit10 (w : World) : (Instr.slice 9 (.string ⟨#[48, 49, 50, 51, 52, 53, 54, 55, 56, 57, 97, 98, 99, 100, 101, 102]⟩) (some (.int .u8 10)) (some (.int .u8 11)) none).run Tryz.prog w = .ok (.string ⟨#[97]⟩) w := by kernel_rfl
theorem slice_digit11 (w : World) : (Instr.slice 9 (.string ⟨#[48, 49, 50, 51, 52, 53, 54, 55, 56, 57, 97, 98, 99, 100, 101, 102]⟩) (some (.int .u8 11)) (some (.int .u8 12)) none).run Tryz.prog w = .ok (.string ⟨#[98]⟩) w := by kernel_rfl
theorem slice_digit12 (w : World) : (Instr.slice 9 (.string ⟨#[48, 49, 50, 51, 52, 53, 54, 55, 56, 57, 97, 98, 99, 100, 101, 102]⟩) (some (.int .u8 12)) (some (.int .u8 13)) none).run Tryz.prog w = .ok (.string ⟨#[99]⟩) w := by kernel_rfl
theorem slice_digit13 (w : World) : (Instr.slice 9 (.string ⟨#[48, 49, 50, 51, 52, 53, 54, 55, 56, 57, 97, 98, 99, 100, 101, 102]⟩) (some (.int .u8 13)) (some (.int .u8 14)) none).run Tryz.prog w = .ok (.string ⟨#[100]⟩) w := by kernel_rfl
theorem slice_digit14 (w : World) : (Instr.slice 9 (.string ⟨#[48, 49, 50, 51, 52, 53, 54, 55, 56, 57, 97, 98, 99, 100, 101, 102]⟩) (some (.int .u8 14)) (some (.int .u8 15)) none).run Tryz.prog w = .ok (.string ⟨#[101]⟩) w := by kernel_rfl
theorem slice_digit15 (w : World) : (Instr.slice 9 (.string ⟨#[48, 49, 50, 51, 52, 53, 54, 55, 56, 57, 97, 98, 99, 100, 101, 102]⟩) (some (.int .u8 15)) (some (.int .u8 16)) none).run Tryz.prog w = .ok (.string ⟨#[102]⟩) w := by kernel_rfl
theorem slice_digit (v : Int) (h0 : 0 ≤ v) (h : v < 16) (w : World) :
    (Instr.slice 9 (.string ⟨#[48, 49, 50, 51, 52, 53, 54, 55, 56, 57, 97, 98, 99, 100, 101, 102]⟩) (some (.int .u8 v)) (some (.int .u8 (v + 1))) none).run Tryz.prog w = .ok (.string ⟨#[Hex.dg v.toNat]⟩) w := by
  have hv : v = 0 ∨ v = 1 ∨ v = 2 ∨ v = 3 ∨ v = 4 ∨ v = 5 ∨ v = 6 ∨ v = 7 ∨ v = 8 ∨ v = 9 ∨ v = 10 ∨ v = 11 ∨ v = 12 ∨ v = 13 ∨ v = 14 ∨ v = 15 := by omega
  rcases hv with rfl | rfl | rfl | rfl | rfl | rfl | rfl | rfl | rfl | rfl | rfl | rfl | rfl | rfl | rfl | rfl
  · exact slice_digit0 w
  · exact slice_digit1 w
  · exact slice_digit2 w
  · exact slice_digit3 w
  · exact slice_digit4 w
  · exact slice_digit5 w
  · exact slice_digit6 w
  · exact slice_digit7 w
  · exact slice_digit8 w
  · exact slice_digit9 w
  · exact slice_digit10 w
  · exact slice_digit11 w
  · exact slice_digit12 w
  · exact slice_digit13 w
  · exact slice_digit14 w
  · exact slice_digit15 w

theorem ref_hex (A : Option Addr) (n c : Nat) (l : List UInt8) (w : World) (hn : l.length = n) (hn2 : n ≤ 1000) (hr : Reads w w.heap.size 1 A n (Lib.byteCells l)) :
    Calls Tryz.prog 8 #[.slice A n c] w fun e w' => e = .returned (.string ⟨(Hex.hex l).toArray⟩) ∧ ∃ q, w' = w.drewN q := by
  go_enter Tryz.func8, Tryz.ntmps8
  go_wp2
  go_loopw [4, 5] (fun s i wr => ∃ k q : Nat, k ≤ n ∧ i = .int .i64 k ∧ s = .string ⟨(Hex.hex (l.take k)).toArray⟩ ∧ wr = w.drewN q) (fun _ i _ => n - (intOf i).toNat)
  case atStart => exact ⟨0, 0, Nat.zero_le _, rfl, rfl, rfl⟩
  case round =>
    obtain ⟨k, q, hk, rfl, rfl, rfl⟩ := hrel
    by_cases hlt : k < n
    · obtain ⟨ad, u, rfl, _, hx, hc⟩ := hr.at_ hlt
      have hlk : k < l.length := by omega
      obtain rfl : u = .int .u8 ((l[k]).toNat : Int) := by
        simp [Lib.byteCells, hlk] at hx
        exact hx.symm
      clear hx
      have hb := (l[k]).toNat_lt
      have s1 := slice_digit ((l[k].toNat : Int) / 16) (by omega) (by omega)
      have s2 := slice_digit ((l[k].toNat : Int) % 16) (by omega) (by omega)
      have t2 : ((l[k].toNat : Int)).tmod 16 = (l[k].toNat : Int) % 16 := Int.tmod_eq_emod_of_nonneg (by omega)
      have w1 : IntKind.u8.wrap ((l[k].toNat : Int) / 16) = (l[k].toNat : Int) / 16 := IntWalk.u8_in _ (by omega)
      have w2 : IntKind.u8.wrap ((l[k].toNat : Int) / 16 + 1) = (l[k].toNat : Int) / 16 + 1 := IntWalk.u8_in _ (by omega)
      have w3 : IntKind.u8.wrap ((l[k].toNat : Int) % 16) = (l[k].toNat : Int) % 16 := IntWalk.u8_in _ (by omega)
      have w4 : IntKind.u8.wrap ((l[k].toNat : Int) % 16 + 1) = (l[k].toNat : Int) % 16 + 1 := IntWalk.u8_in _ (by omega)
      have hl2 : (Hex.hex (l.take k)).length ≤ 2 * k := by rw [Hex.hex_length]; simp; omega
      have a1 := fun W : World => run_string_add_sum (P := Tryz.prog) W ⟨(Hex.hex (l.take k)).toArray⟩ ⟨#[Hex.dg ((l[k].toNat : Int) / 16).toNat]⟩ (by simp [ByteArray.size]; omega)
      have a2 := fun W : World => run_string_add_sum (P := Tryz.prog) W (⟨(Hex.hex (l.take k)).toArray⟩ ++ ⟨#[Hex.dg ((l[k].toNat : Int) / 16).toNat]⟩) ⟨#[Hex.dg ((l[k].toNat : Int) % 16).toNat]⟩ (by rw [ByteArray.size_append]; simp [ByteArray.size]; omega)
      go_wp2
      go_quiet (fail)
      clear a1 a2 s1 s2 t2 w1 w2 w3 w4
      go_wp2
      go_roundw
      case rel =>
        refine ⟨k + 1, _, by omega, by go_num, ?_, rfl⟩
        rw [List.take_succ_eq_append_getElem hlk, Hex.hex_append]
        apply congrArg
        apply ByteArray.ext
        apply Array.toList_inj.1
        simp [Hex.hex]
      case measure => simp [intOf]; omega
    · go_wp2
      go_ret
      exact ⟨by rw [List.take_of_length_le (by omega)]; rfl, _, rfl⟩
end Go.Proofs.YtkfogknohmkbpaaGreatDoor
