/- The walks of the reference's Hex, of slices.Equal at bytes, and of the values of digits. -/
import Derived.Test.YtkfogknohmkbpaaGreatDoorWe
import Derived.Deep.QuietTactic
import Derived.BigQuiet
namespace Go.Proofs.YtkfogknohmkbpaaGreatDoor
open Go.RowKit

set_option maxRecDepth 100000
set_option maxHeartbeats 400000

/-- slices.Equal at bytes. -/
theorem equal_walk (A B : Option Addr) (n c m d : Nat) (xs ys : List UInt8) (w : World) (hx : xs.length = n) (hy : ys.length = m) (hn2 : n ≤ 100000) (hm2 : m ≤ 100000)
    (hr : Reads w w.heap.size 1 A n (Lib.byteCells xs)) (hs : Reads w w.heap.size 1 B m (Lib.byteCells ys)) :
    Calls Tryz.prog 9 #[.slice A n c, .slice B m d] w fun e w' => e = .returned (.bool (xs == ys)) ∧ ∃ q, w' = w.drewN q := by
  by_cases hnm : n = m
  · subst hnm
    have hne : ((n : Int) != (n : Int)) = false := by simp
    go_enter Tryz.func9, Tryz.ntmps9
    go_wp2
    go_loopw [13] (fun i wr => ∃ k q : Nat, k ≤ n ∧ i = .int .i64 k ∧ xs.take k = ys.take k ∧ wr = w.drewN q) (fun i _ => n - (intOf i).toNat)
    case atStart => exact ⟨0, 0, Nat.zero_le _, rfl, rfl, rfl⟩
    case round =>
      obtain ⟨k, q, hk, rfl, hkk, rfl⟩ := hrel
      have HK := Lib.hid hkk
      clear hkk
      by_cases hlt : k < n
      · have hkx : k < xs.length := by omega
        have hky : k < ys.length := by omega
        obtain ⟨ad, u, rfl, _, hxu, hc⟩ := hr.at_ hlt
        obtain ⟨ad', u', rfl, _, hyu, hc'⟩ := hs.at_ hlt
        obtain rfl : u = .int .u8 ((xs[k]).toNat : Int) := by
          simp [Lib.byteCells, hkx] at hxu
          exact hxu.symm
        obtain rfl : u' = .int .u8 ((ys[k]).toNat : Int) := by
          simp [Lib.byteCells, hky] at hyu
          exact hyu.symm
        clear hxu hyu hr hs hne
        by_cases he : xs[k] = ys[k]
        · have hb : (((xs[k]).toNat : Int) != ((ys[k]).toNat : Int)) = false := by simp [he]
          have HE := Lib.hid he
          clear he
          go_wp2
          go_quiet (fail)
          go_wp2
          go_roundw
          case rel =>
            refine ⟨k + 1, _, by omega, by go_num, ?_, rfl⟩
            rw [List.take_succ_eq_append_getElem hkx, List.take_succ_eq_append_getElem hky, HK.out, HE.out]
          case measure => simp [intOf]; omega
        · have hb : (((xs[k]).toNat : Int) != ((ys[k]).toNat : Int)) = true := by
            rw [bne_iff_ne]
            intro h
            exact he (UInt8.toNat_inj.1 (by omega))
          have hxy : (xs == ys) = false := by
            rw [beq_eq_false_iff_ne]
            rintro rfl
            exact he rfl
          have HE := Lib.hid hxy
          clear he hxy
          go_wp2
          go_quiet (fail)
          go_wp2
          go_ret
          exact ⟨by rw [HE.out]; rfl, _, by rw [World.drewN_drewN]⟩
      · clear hne
        go_wp2
        go_ret
        refine ⟨?_, _, rfl⟩
        have := HK.out
        rw [List.take_of_length_le (by omega), List.take_of_length_le (by omega)] at this
        rw [this]
        simp
  · have hne : ((n : Int) != (m : Int)) = true := by rw [bne_iff_ne]; omega
    have hxy : (xs == ys) = false := by
      rw [beq_eq_false_iff_ne]
      rintro rfl
      exact hnm (by omega)
    have HE := Lib.hid hxy
    clear hxy
    go_enter Tryz.func9, Tryz.ntmps9
    go_wp2
    go_ret
    exact ⟨by rw [HE.out]; rfl, 0, rfl⟩
end Go.Proofs.YtkfogknohmkbpaaGreatDoor
