/- The walk of the reference's Bytes. -/
import Derived.Test.YtkfogknohmkbpaaGreatDoorWh
namespace Go.Proofs.YtkfogknohmkbpaaGreatDoor
open Go.RowKit

set_option maxRecDepth 100000
set_option maxHeartbeats 400000

theorem res_empty {w w' : World} (hb : Below w.heap.size w w') : BytesRes w [] (.returned (.tuple #[.slice none 0 0, .bool false])) w' := ⟨none, 0, 0, rfl, rfl, Reads.none_, hb⟩
/-- The bytes of the first k pairs of digits. -/
def acc (l : List UInt8) (k : Nat) : List UInt8 := (List.range k).map fun j => UInt8.ofNat (Hex.cv l l.length j)
theorem acc_length (l : List UInt8) (k : Nat) : (acc l k).length = k := by simp [acc]
theorem acc_succ (l : List UInt8) (k : Nat) : acc l (k + 1) = acc l k ++ [UInt8.ofNat (Hex.cv l l.length k)] := by simp [acc, List.range_succ]
theorem cv_full (l : List UInt8) (k : Nat) (h : 2 * k + 1 < l.length) : Hex.cv l l.length k = 16 * Hex.val (l.getD (2 * k) 0) + Hex.val (l.getD (2 * k + 1) 0) := by unfold Hex.cv; rw [if_pos h]

theorem ref_bytes_empty (w : World) : Calls Tryz.prog 7 #[.string ⟨#[]⟩] w (BytesRes w []) := by
  go_enter Tryz.func7, Tryz.ntmps7
  go_wp2
  refine bodyPost_ret (v := .tuple #[.slice none 0 0, .bool false]) (by simp [results, Tryz.results7, go_sem]) rfl ?_
  exact res_empty (Below.refl _ _)

theorem ref_bytes (l : List UInt8) (h0 : 0 < l.length) (hl : l.length ≤ 2000) (w : World) : Calls Tryz.prog 7 #[.string ⟨l.toArray⟩] w (BytesRes w l) := by
  have hsz : (⟨l.toArray⟩ : ByteArray).size = l.length := by simp [ByteArray.size]
  have hne : l.isEmpty = false := by cases l with
    | nil => simp at h0
    | cons a t => rfl
  by_cases ho : l.length % 2 = 0
  · have ho2 : ((l.length : Int) % 2 != 0) = false := by
      have : (l.length : Int) % 2 = 0 := by omega
      rw [this]; rfl
    obtain ⟨i0, hi, hz0, hz1, hz2⟩ := info_parts byte_info
    go_enter Tryz.func7, Tryz.ntmps7
    go_wp2
    go_loopw [4, 5] (fun v i wr => ∃ p k : Nat, p = 2 * k ∧ p ≤ l.length ∧ i = .int .i64 (p : Int) ∧ (∀ j, j < p → Hex.val (l.getD j 0) < 16) ∧ wr.ownsRow w.heap.size 5 1 v k (Lib.byteCells (acc l k)) ∧ Below w.heap.size w wr) (fun _ i _ => l.length - (intOf i).toNat)
    case atStart => exact ⟨0, 0, rfl, by omega, rfl, fun j hj => absurd hj (by omega), World.ownsRow_nil _ _ _ _, Below.refl _ _⟩
    case round =>
      obtain ⟨p, k, hpk, hp, rfl, hgood, hown, hbw⟩ := hrel
      have hgk : Hid (∀ j, j < p → Hex.val (l.getD j 0) < 16) := hide hgood
      have hpq := Lib.hid hpk
      clear hgood hpk
      by_cases hlt : p < l.length
      · have hlt2 : p + 1 < l.length := by have := hpq.out; omega
        have ha : p < (⟨l.toArray⟩ : ByteArray).size := by omega
        have hb : p + 1 < (⟨l.toArray⟩ : ByteArray).size := by omega
        by_cases hv1 : Hex.val ((⟨l.toArray⟩ : ByteArray)[p]) < 16
        · have d1 : decide (15 < (Hex.val ((⟨l.toArray⟩ : ByteArray)[p]) : Int)) = false := decide_eq_false (by omega)
          by_cases hv2 : Hex.val ((⟨l.toArray⟩ : ByteArray)[p + 1]) < 16
          · have d2 : decide (15 < (Hex.val ((⟨l.toArray⟩ : ByteArray)[p + 1]) : Int)) = false := decide_eq_false (by omega)
            go_wp2_with (first
              | (at_builtin; refine wpList_append_own _ rfl _ _ 22 rfl w.heap.size 5 i0 (.int .u8 0) 1 1 Tryz.underlying22 hi hz0 hz1 hz2 rfl (by decide) _ _ _ rfl (hown.alloc _) ⟨wr.heap.size, 0, none⟩ 1 1 [.int .u8 (16 * (Hex.val ((⟨l.toArray⟩ : ByteArray)[p]) : Int) + (Hex.val ((⟨l.toArray⟩ : ByteArray)[p + 1]) : Int))] rfl rfl ?c1 ?c2 ?c3 ?c4 ?c5 ?_)
              | (go_at_call 14; refine (ref_value _ _).mono ?_; rintro e w' ⟨rfl, rfl⟩))
            case c1 =>
              intro j u hj
              match j, hj with
              | 0, hj => simp at hj; subst hj; simp [Addr.add]
            case c2 => intro u hu; simp at hu; subst hu; rfl
            case c3 => have := hpq.out; unfold maxLen; omega
            case c4 => have := hpq.out; omega
            case c5 => have := hbw.size; simp; omega
            intro v' w1 hown' hgrow _
            go_wp2
            go_roundw
            case rel =>
              have hpk2 := hpq.out
              refine ⟨p + 2, k + 1, by omega, by omega, by go_num, ?_, ?_, ?_⟩
              · intro j hj
                by_cases e : j < p
                · exact unhide hgk j e
                · by_cases e : j = p
                  · subst e
                    have : l.getD j 0 = l[j] := by simp [hlt]
                    rw [this]
                    exact hv1
                  · have e : j = p + 1 := by omega
                    subst e
                    have : l.getD (p + 1) 0 = l[p + 1] := by simp [hlt2]
                    rw [this]
                    exact hv2
              · rw [acc_succ, Lib.byteCells_append]
                have e : Lib.byteCells [UInt8.ofNat (Hex.cv l l.length k)] = [.int .u8 (16 * (Hex.val ((⟨l.toArray⟩ : ByteArray)[p]) : Int) + (Hex.val ((⟨l.toArray⟩ : ByteArray)[p + 1]) : Int))] := by
                  rw [cv_full l k (by omega), ← hpk2]
                  have e1 : l.getD p 0 = (⟨l.toArray⟩ : ByteArray)[p] := by
                    have : l.getD p 0 = l[p] := by simp [hlt]
                    exact this
                  have e2 : l.getD (p + 1) 0 = (⟨l.toArray⟩ : ByteArray)[p + 1] := by
                    have : l.getD (p + 1) 0 = l[p + 1] := by simp [hlt2]
                    exact this
                  rw [e1, e2]
                  have h : 16 * Hex.val ((⟨l.toArray⟩ : ByteArray)[p]) + Hex.val ((⟨l.toArray⟩ : ByteArray)[p + 1]) < 256 := by omega
                  simp [Lib.byteCells, Nat.mod_eq_of_lt h]
                rw [e]
                exact hown'
              · refine (hbw.alloc hbw.size _).grown hgrow (by have := hbw.size; simp; omega) (fun g hg => ?_)
                rcases hown.2 with ⟨rfl, _⟩ | ⟨g', cap, cur, rfl, hg', _⟩
                · cases hg
                · have : g' = g := by simpa [Value.ownBlock] using hg
                  omega
            case measure => simp [intOf]; omega
          · have d2 : decide (15 < (Hex.val ((⟨l.toArray⟩ : ByteArray)[p + 1]) : Int)) = true := decide_eq_true (by omega)
            go_wp2_with (go_at_call 14; refine (ref_value _ _).mono ?_; rintro e w' ⟨rfl, rfl⟩)
            refine bodyPost_ret (v := .tuple #[.slice none 0 0, .bool false]) (by simp [results, Tryz.results7, go_sem]) rfl ?_
            refine res_none (Hex.un_bad _ (p + 1) hlt2 ?_) hbw
            have : l.getD (p + 1) 0 = l[p + 1] := by simp [hlt2]
            rw [this]
            exact hv2
        · have d1 : decide (15 < (Hex.val ((⟨l.toArray⟩ : ByteArray)[p]) : Int)) = true := decide_eq_true (by omega)
          go_wp2_with (go_at_call 14; refine (ref_value _ _).mono ?_; rintro e w' ⟨rfl, rfl⟩)
          refine bodyPost_ret (v := .tuple #[.slice none 0 0, .bool false]) (by simp [results, Tryz.results7, go_sem]) rfl ?_
          refine res_none (Hex.un_bad _ p hlt ?_) hbw
          have : l.getD p 0 = l[p] := by simp [hlt]
          rw [this]
          exact hv1
      · go_wp2
        have hpk2 := hpq.out
        have hpe : p = l.length := by omega
        subst hpe
        have hu := Hex.un_good l ho (unhide hgk)
        have ho : Hex.out l = acc l k := by
          have e : l.length / 2 = k := by omega
          simp [Hex.out, hu, acc, e]
        have hk : Hex.ok l = true := by
          unfold Hex.ok
          rw [hu, hne]
          rfl
        obtain ⟨g, cap, rfl, _, _⟩ := hown.form (by omega)
        refine bodyPost_ret (v := .tuple #[.slice (some ⟨g, 0, none⟩) k cap, .bool true]) (by simp [results, Tryz.results7, go_sem]) rfl ?_
        refine ⟨_, _, _, by rw [hk], by rw [ho, acc_length], ?_, hbw⟩
        rw [ho]
        exact Reads.of_own hown
  · have ho2 : ((l.length : Int) % 2 != 0) = true := by
      have : (l.length : Int) % 2 = 1 := by omega
      rw [this]; rfl
    have ho3 := Lib.hid ho
    clear ho
    go_enter Tryz.func7, Tryz.ntmps7
    go_wp2
    refine bodyPost_ret (v := .tuple #[.slice none 0 0, .bool false]) (by simp [results, Tryz.results7, go_sem]) rfl ?_
    exact res_none (Hex.un_odd _ (by have := ho3.out; omega)) (Below.refl _ _)
end Go.Proofs.YtkfogknohmkbpaaGreatDoor
