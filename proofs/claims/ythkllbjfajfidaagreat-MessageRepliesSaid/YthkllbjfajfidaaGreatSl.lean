/- Walks of slices.Grow from nil and slices.Concat, at slices of bytes: the result is the parts' bytes, one after the other. -/
import Derived.Test.YthkllbjfajfidaaGreatRb
import Derived.Test.YthkllbjfajfidaaGreatProg
import Derived.Handy
namespace Go.Proofs.YthkllbjfajfidaaGreat
open Go.RowKit

set_option maxRecDepth 100000
set_option maxHeartbeats 1000000

theorem byte_info : (Tryz.prog.info? 5).map (fun i => (i.zero, i.size, i.bytes)) = some (some (.int .u8 0), 1, 1) := by kernel_rfl

theorem wpList_append_known {P : Program} {w : World} {ops : Array Oper} {rest : List Oper} {o : Oper} {a : Act} {Q : Exit → Act → World → Prop} (hgd : o.guard = none) (s x : Operand) (t ti : TypeId)
    (ho : o.op = .call { callee := .builtin .append, args := #[s, x], argTypes := #[t, ti] }) (v u v' : Value) (w' : World) (hs : a.eval s = v) (hx : a.eval x = u)
    (hrun : (Builtin.append_ #[t, ti] o.type #[v, u]).run P w = .ok v' w') (h : wpList P ops Q rest (a.put o.dst v') w') : wpList P ops Q (o :: rest) a w := by
  refine wpList_plain hgd fun K hK => ?_
  unfold Oper.wp
  simp [execOp, ho, resolve, invoke, builtin, hs, hx, hrun, Result.andThen]
  exact hK _ _ h

/-- append(nil, make([]T, m)...), the number in the second place: a new row with room for m. -/
theorem run_append_zeros_nil {P : Program} (w : World) (t ti ty e : TypeId) (i : TypeInfo) (z : Value) (size bytes : Nat) (ht : P.underlying t = some (.slice e)) {k : IntKind} (hti : P.underlying ti = some (.int k)) (hi : P.info? e = some i) (hz : i.zero = some z)
    (hsize : i.size = size) (hby : i.bytes = bytes) (hzs : z.cells.size = size) (hsz : 0 < size) (hb0 : 0 < bytes) (kx : IntKind) (m : Nat) (hm : 0 < m) (hbytes : m * bytes ≤ 140737488355328) :
    ∃ w' cap, (Builtin.append_ #[t, ti] ty #[.slice none 0 0, .int kx m]).run P w = .ok (.slice (some ⟨w.heap.size, 0, none⟩) m cap) w' ∧ w'.ownsRow w.heap.size e size (.slice (some ⟨w.heap.size, 0, none⟩) 0 cap) 0 [] ∧ m ≤ cap ∧ Below w.heap.size w w' := by
  subst hsize
  subst hby
  have hle : m ≤ 140737488355328 := Nat.le_trans (Nat.le_mul_of_pos_right _ hb0) hbytes
  have hw : IntKind.i64.wrap (m : Int) = m := by rw [IntKind.wrap_i64]; omega
  have hneg : ¬ ((m : Int) < 0) := by omega
  have hbig : ¬ (281474976710656 < (m : Int) * (i.bytes : Int)) := by
    rw [← Int.natCast_mul]
    omega
  have hn : ¬ (m ≤ 0) := by omega
  have hm0 : ¬ (m = 0) := by omega
  have h63' : ¬ (9223372036854775807 < (m : Int)) := by omega
  have hfit := growslice_fits (need := m) (old := 0) (by omega) hbytes
  have h48' : ¬ (281474976710656 < Builtin.nextslicecap m 0 * i.bytes) := by omega
  have hmz : ¬ (m = 0 ∨ i.size = 0) := by omega
  have hge := grownCap_ge w m 0 e
  have hcm : grownCap w m 0 e ≤ maxLen := grownCap_le_maxLen w m 0 e (by unfold maxLen; omega)
  refine ⟨w.drew.alloc (.cells (Builtin.zeroCells z.cells m ++ Builtin.zeroCells z.cells (grownCap w m 0 e - m)) e), grownCap w m 0 e, ?_, ⟨by simp, .inr ⟨w.heap.size, _, _, rfl, Nat.le_refl _, heap_alloc_new w.drew _, Nat.zero_le _, hcm, ?_, by simp⟩⟩, hge, ?_⟩
  · have hsn : i.size ≠ 0 := by omega
    simp [Builtin.append_, run_underlying ht, run_underlying hti, sizeOf, typeInfo, zeroValue, hi, hz, asInt, asIntOf, hw, hneg, hbig, hm0, h63', h48', Question.forced, newRow, grownCap, Builtin.firstCells]
    intro h0
    exact absurd h0 (Nat.mul_ne_zero hm0 hsn)
  · simp only [Array.size_append, size_zeroCells, hzs, ← Nat.add_mul]
    congr 1
    omega
  · exact ((Below.refl _ w).drew).alloc (by simp) _

theorem grow_nil (n : Nat) (hn : n ≤ 1000000) (w : World) : Calls Tryz.prog 43 #[.slice none 0 0, .int .i64 (n : Int)] w fun e w' => ∃ v, e = .returned v ∧ w'.ownsRow w.heap.size 5 1 v 0 [] ∧ Below w.heap.size w w' := by
  by_cases h0 : n = 0
  · subst h0
    go_enter Tryz.func43, Tryz.ntmps43
    go_wp2
    go_ret
    exact ⟨_, rfl, World.ownsRow_nil _ _ _ _, Below.refl _ _⟩
  · obtain ⟨i0, hi, hz0, hz1, hz2⟩ := info_parts byte_info
    obtain ⟨w1, cap, hrun, hown, hcap, hb⟩ := run_append_zeros_nil (P := Tryz.prog) w 24 3 24 5 i0 (.int .u8 0) 1 1 Tryz.underlying24 Tryz.underlying3 hi hz0 hz1 hz2 rfl (by omega) (by omega) .i64 n (by omega) (by omega)
    have HH := hide hown
    have hk := hide hrun
    clear hown hrun hi hz0 hz1 hz2
    go_enter Tryz.func43, Tryz.ntmps43
    go_wp2_with (at_builtin; refine wpList_append_known rfl _ _ 24 3 rfl _ _ _ _ rfl rfl (unhide hk) ?_)
    go_ret
    exact ⟨_, rfl, unhide HH, hb⟩

theorem parts_cell {w : World} {A : Option Addr} {vs : List Value} {ls : List (List UInt8)} (hP : RC w A vs) (hI : IsParts w vs ls) {j : Nat} (h : j < ls.length) :
    ∃ ad B c, A = some ad ∧ ad.block < w.heap.size ∧ w.cell? (ad.add j) = some (.slice B ls[j].length c) ∧ ls[j].length ≤ c ∧ c ≤ maxLen ∧ RB w B ls[j] := by
  have hv : j < vs.length := by rw [hI.1]; exact h
  obtain ⟨ad, h1, h2, h3⟩ := hP.at_ hv
  obtain ⟨B, c, h4, h5, h6, h7⟩ := hI.2 j hv h
  exact ⟨ad, B, c, h1, h2, by rw [h3, h4], h5, h6, h7⟩

theorem concat_walk (w : World) (A : Option Addr) (c : Nat) (vs : List Value) (ls : List (List UInt8)) (k : Nat) (hk : ls.length = k) (hP : RC w A vs) (hI : IsParts w vs ls) (hK : k ≤ 1000000) (hT : ls.flatten.length ≤ 1000000) :
    Calls Tryz.prog 38 #[.slice A k c] w fun e w' => ∃ v, e = .returned v ∧ IsB w' v ls.flatten ∧ Gr w w' := by
  obtain ⟨i0, hi, hz0, hz1, hz2⟩ := info_parts byte_info
  have hS : ∀ j, (catL ls j).length ≤ 1000000 := fun j => Nat.le_trans (catL_le ls j) hT
  have hSS := hide hS
  have hII := hide hI
  have hPP := hide hP
  have hTT := hide hT
  have hkk := hide hk
  clear hS hI hP hT hk
  go_enter Tryz.func38, Tryz.ntmps38
  go_wp2
  go_loopw [3, 11] (fun s i wr => ∃ j : Nat, j ≤ k ∧ i = .int .i64 j ∧ s = .int .i64 ((catL ls j).length : Nat) ∧ w = wr) (fun _ i _ => k - (intOf i).toNat)
  case atStart => exact ⟨0, Nat.zero_le _, rfl, rfl, rfl⟩
  case round =>
    obtain ⟨j, hj, rfl, rfl, rfl⟩ := hrel
    by_cases hlt : j < k
    · have hjl : j < ls.length := by have := unhide hkk; omega
      obtain ⟨ad, B, cB, rfl, hadb, hc, hcB, hcm, hB⟩ := parts_cell (unhide hPP) (unhide hII) hjl
      have s1 := unhide hSS j
      have s2 := unhide hSS (j + 1)
      have s3 : (catL ls (j + 1)).length = (catL ls j).length + ls[j].length := by rw [catL_succ ls j hjl, List.length_append]
      rw [s3] at s2
      have hs3 := hide s3
      have hBB := hide hB
      clear s3 hB hcm hcB
      go_wp2
      go_roundw
      case rel => exact ⟨j + 1, by omega, by go_num, by rw [unhide hs3]; go_num, trivial⟩
      case measure => simp [intOf]; omega
    · have hjk : j = k := by omega
      subst hjk
      have s1 := unhide hSS j
      go_wp2_with (go_at_call 43; refine (grow_nil (catL ls j).length (by omega) _).mono ?_; rintro e w1 ⟨v1, rfl, hown, hb1⟩)
      go_loopw [6, 27] (fun v i w2 => ∃ m : Nat, m ≤ j ∧ i = .int .i64 m ∧ w2.ownsRow w.heap.size 5 1 v (catL ls m).length (cellsB (catL ls m)) ∧ Below w.heap.size w w2) (fun _ i _ => j - (intOf i).toNat)
      case atStart => exact ⟨0, Nat.zero_le _, rfl, hown, hb1⟩
      case round =>
        obtain ⟨m, hm, rfl, hown2, hbw⟩ := hrel
        by_cases hlt : m < j
        · have hml : m < ls.length := by have := unhide hkk; omega
          obtain ⟨ad, B, cB, rfl, hadb, hc, hcB, hcm, hB⟩ := parts_cell ((unhide hPP).gr hbw) ((unhide hII).gr hbw) hml
          have s2 := unhide hSS (m + 1)
          have s3 : (catL ls (m + 1)).length = (catL ls m).length + ls[m].length := by rw [catL_succ ls m hml, List.length_append]
          have s4 : cellsB (catL ls (m + 1)) = cellsB (catL ls m) ++ cellsB ls[m] := by rw [catL_succ ls m hml, cellsB_append]
          rw [s3] at s2
          have hs3 := hide s3
          have hs4 := hide s4
          clear s3 s4 hcm hcB
          have hsz := hbw.size
          have hR := hide hB.reads
          clear hB
          go_wp2_with (at_builtin; refine wpList_append_any _ rfl _ _ 24 rfl w.heap.size 5 i0 (.int .u8 0) 1 1 Tryz.underlying24 hi hz0 hz1 hz2 rfl (by decide) _ _ _ rfl hown2 wr.heap.size B ls[m].length cB (cellsB ls[m]) rfl (unhide hR) (cellsB_one _) ?c3 ?c4 ?c5 ?_)
          case c3 => unfold maxLen; omega
          case c4 => omega
          case c5 => exact hsz
          intro v' w3 hown3 hg3 _
          go_wp2
          go_roundw
          case rel =>
            refine ⟨m + 1, by omega, by go_num, ?_, ?_⟩
            · rw [unhide hs3, unhide hs4]
              exact hown3
            · refine hbw.grown hg3 hsz (fun g hg => ?_)
              rcases hown2.2 with ⟨rfl, _⟩ | ⟨g', cap, cur, rfl, hg', _⟩
              · cases hg
              · have : g' = g := by simpa [Value.ownBlock] using hg
                omega
          case measure => simp [intOf]; omega
        · have hmj : m = j := by omega
          subst hmj
          have hI2 : IsB wr u6 (catL ls m) := IsB.of_own hown2 rfl
          rw [← unhide hkk, catL_all] at hI2
          have hH := hide hI2
          clear hI2
          go_wp2
          go_ret
          exact ⟨_, rfl, unhide hH, hbw⟩
end Go.Proofs.YthkllbjfajfidaaGreat
