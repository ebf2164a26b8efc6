/- The walk of the law. -/
import Derived.Test.YtkfogknohmkbpaaGreatDoorWi
import Derived.Test.YtkfogknohmkbpaaGreatDoorWd
namespace Go.Proofs.YtkfogknohmkbpaaGreatDoor
open Go.RowKit

set_option maxRecDepth 100000
set_option maxHeartbeats 1000000

theorem ref_bytes_any (l : List UInt8) (hl : l.length ≤ 2000) (w : World) : Calls Tryz.prog 7 #[.string ⟨l.toArray⟩] w (BytesRes w l) := by
  cases l with
  | nil => exact ref_bytes_empty w
  | cons a t => exact ref_bytes (a :: t) (by simp) hl w

theorem bytes_hex (l : List UInt8) (n : Nat) (hn : l.length = n) (hn2 : n ≤ 1000) (w : World) :
    Calls Tryz.prog 6 #[.string ⟨(Hex.hex l).toArray⟩] w fun e w' => ∃ (A : Option Addr) (c : Nat), e = .returned (.tuple #[.slice A n c, .bool (decide (0 < (n : Int)))]) ∧ Reads w' w'.heap.size 1 A n (Lib.byteCells l) ∧ Below w.heap.size w w' := by
  refine (bytes_walk (Hex.hex l) (by rw [Hex.hex_length]; omega) w).mono ?_
  rintro e w' ⟨A, m, c, rfl, hm, hr, hb⟩
  rw [Hex.out_hex] at hm hr
  rw [Hex.ok_hex]
  have e : decide (0 < l.length) = decide (0 < (n : Int)) := by
    by_cases h : 0 < n
    · rw [decide_eq_true (by omega), decide_eq_true (by omega)]
    · rw [decide_eq_false (by omega), decide_eq_false (by omega)]
  obtain rfl : m = n := by omega
  exact ⟨A, c, by rw [e], hr, hb⟩

theorem out_le : ∀ l : List UInt8, (Hex.out l).length ≤ l.length
  | [] => Nat.le_refl _
  | [_] => Nat.zero_le _
  | a :: b :: l => by
    have ih := out_le l
    unfold Hex.out at ih ⊢
    simp only [Hex.un]
    split
    · cases h : Hex.un l with
      | none => simp
      | some r => rw [h] at ih; simp at ih ⊢; omega
    · simp

theorem equal_from (q : Nat) (A B : Option Addr) (n c m d : Nat) (xs ys : List UInt8) (w : World) (hx : xs.length = n) (hy : ys.length = m) (hn2 : n ≤ 100000) (hm2 : m ≤ 100000)
    (hr : Reads w w.heap.size 1 A n (Lib.byteCells xs)) (hs : Reads w w.heap.size 1 B m (Lib.byteCells ys)) :
    Calls Tryz.prog 9 #[.slice A n c, .slice B m d] (w.drewN q) fun e w' => e = .returned (.bool (xs == ys)) ∧ ∃ q, w' = w.drewN q := by
  refine (equal_walk A B n c m d xs ys (w.drewN q) hx hy hn2 hm2 (hr.drewN q) (hs.drewN q)).mono ?_
  rintro e w' ⟨rfl, q', rfl⟩
  exact ⟨rfl, q + q', by simp⟩

theorem law_any (A : Option Addr) (n c : Nat) (l s : List UInt8) (m : Int) (w : World) (hn : l.length = n) (hr : Reads w w.heap.size 1 A n (Lib.byteCells l))
    (h0 : 0 < w.heap.size) (hm : w.cell? ⟨0, 0, none⟩ = some (.int .i64 m)) :
    Calls Tryz.prog 3 #[.slice A n c, .string ⟨s.toArray⟩] w fun e w' => e = .returned (.bool true) ∧ Below w.heap.size w w' := by
  have hsz : (⟨s.toArray⟩ : ByteArray).size = s.length := by simp [ByteArray.size]
  by_cases hb : 500 < n ∨ 500 < s.length
  · have d : (decide (500 < (n : Int)) || decide (500 < (s.length : Int))) = true := by
      rcases hb with h | h
      · rw [decide_eq_true (by omega)]; rfl
      · rw [decide_eq_true (p := 500 < (s.length : Int)) (by omega)]; exact Bool.or_true _
    clear hb
    by_cases hb1 : 500 < n
    · go_enter Tryz.func3, Tryz.ntmps3
      go_wp2_with (go_at_call 4; refine (alive_walk m _ h0 hm).mono ?_; rintro e w' ⟨rfl, hb⟩)
      go_ret
      exact ⟨rfl, hb⟩
    · have hb2 : 500 < s.length := by
        simp at d
        omega
      go_enter Tryz.func3, Tryz.ntmps3
      go_wp2_with (go_at_call 4; refine (alive_walk m _ h0 hm).mono ?_; rintro e w' ⟨rfl, hb⟩)
      go_ret
      exact ⟨rfl, hb⟩
  · have hn5 : n ≤ 500 := by omega
    have hs5 : s.length ≤ 500 := by omega
    clear hb
    have hnb : n ≤ 100000 := by omega
    have tok : Hid True := hide trivial
    have hos : (Hex.out s).length ≤ 100000 := Nat.le_trans (out_le s) (by omega)
    have HW := Lib.hid (hex_walk A n c l w hn (by omega) hr)
    have HB := fun W => Lib.hid (bytes_hex l n hn (by omega) W)
    have HS := fun W => Lib.hid (bytes_walk s (by omega) W)
    have HR := fun W => Lib.hid (ref_bytes_any s (by omega) W)
    go_enter Tryz.func3, Tryz.ntmps3
    go_wp2_with (first
      | (go_at_call 5; refine HW.out.mono ?_; rintro e w1 ⟨rfl, b1⟩)
      | (go_at_call 6; refine (HS w2).out.mono ?_; rintro e w3 ⟨A2, n2, c2, rfl, hn2, r2, b3⟩)
      | (go_at_call 6; refine (HB w1).out.mono ?_; rintro e w2 ⟨A1, c1, rfl, r1, b2⟩)
      | (go_at_call 7; refine (HR w3).out.mono ?_; rintro e w4 ⟨A3, n3, c3, rfl, hn3, r3, b4⟩)
      | (go_at_call 4
         have B1 : Below w.heap.size w w4 := below_after (below_after (below_after b1 b2) b3) b4
         have B2 : Below w2.heap.size w2 w4 := below_after b3 b4
         refine (alive_walk m w4 (Nat.lt_of_lt_of_le h0 B1.size) ((B1.cell h0).trans hm)).mono ?_; rintro e w5 ⟨rfl, b5⟩)
      | (go_at_call 8
         refine (ref_hex A n c l w5 hn (by omega) (((hr.below (below_after B1 b5)).more (below_after B1 b5).size))).mono ?_; rintro e w6 ⟨rfl, q6, rfl⟩)
      | (go_at_call 9; clear tok; refine (equal_from q6 A1 A n c1 n c l l w5 hn hn hnb hnb ((r1.below (below_after B2 b5)).more (below_after B2 b5).size) ((hr.below (below_after B1 b5)).more (below_after B1 b5).size)).mono ?_; rintro e w6 ⟨rfl, q7, rfl⟩))
    have r2' := (r2.below (below_after b4 b5)).more (below_after b4 b5).size
    have r3' := (r3.below b5).more b5.size
    rw [hn2] at r2'
    rw [hn3] at r3'
    have HE := equal_from q7 A2 A3 _ c2 _ c3 (Hex.out s) (Hex.out s) w5 rfl rfl hos hos r2' r3'
    refine HE.mono ?_
    rintro e w6 ⟨rfl, q8, rfl⟩
    have B5 := below_drewN (below_after B1 b5) q8
    go_wp2
    go_ret
    exact ⟨rfl, B5⟩
end Go.Proofs.YtkfogknohmkbpaaGreatDoor
