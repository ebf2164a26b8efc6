/- The walk of Bytes of the script package. -/
import Derived.Test.YtkfogknohmkbpaaGreatDoorWg
import Derived.Lib.OthersKept
namespace Go.Proofs.YtkfogknohmkbpaaGreatDoor
open Go.RowKit

set_option maxRecDepth 100000
set_option maxHeartbeats 400000

theorem run_make_rowN {P : Program} (t e : TypeId) (i : TypeInfo) (z : Value) (ht : P.underlying t = some (.slice e)) (hi : P.info? e = some i) (hz : i.zero = some z)
    (kl kc : IntKind) (n c : Nat) (hnc : n ≤ c) (hbytes : i.bytes * c ≤ 281474976710656) (h63 : c ≤ 9223372036854775807) (w : World) :
    (Instr.makeSlice t (.int kl (n : Int)) (.int kc (c : Int))).run P w = .ok (.slice (some ⟨w.heap.size, 0, none⟩) n c) (w.alloc (.cells (madeCells z.cells (c * i.size)) e)) := by
  have hb : (i.bytes : Int) * (c : Int) ≤ 281474976710656 := by
    have h : ((i.bytes * c : Nat) : Int) ≤ 281474976710656 := by omega
    rwa [Int.natCast_mul] at h
  have hr := run_make (P := P) w t e i z ht hi hz kl kc n c (by omega) (by omega) hb (by omega)
  simp only [Int.toNat_natCast] at hr
  exact hr

/-- What Bytes hands back. -/
def BytesRes (w : World) (l : List UInt8) (e : Ending) (w' : World) : Prop :=
  ∃ (A : Option Addr) (n c : Nat), e = .returned (.tuple #[.slice A n c, .bool (Hex.ok l)]) ∧ n = (Hex.out l).length ∧ Reads w' w'.heap.size 1 A n (Lib.byteCells (Hex.out l)) ∧ Below w.heap.size w w'

theorem res_none {w w' : World} {l : List UInt8} (h : Hex.un l = none) (hb : Below w.heap.size w w') : BytesRes w l (.returned (.tuple #[.slice none 0 0, .bool false])) w' := by
  have ho : Hex.out l = [] := by simp [Hex.out, h]
  have hk : Hex.ok l = false := by simp [Hex.ok, h]
  exact ⟨none, 0, 0, by rw [hk], by rw [ho]; rfl, by rw [ho]; exact Reads.none_, hb⟩

/-- The cells of the slice when pos digits have been read. -/
def st (l : List UInt8) (pos : Nat) : Array Value := ((List.range (l.length / 2)).map fun j => Value.int .u8 (Hex.cv l pos j : Int)).toArray
theorem st_get (l : List UInt8) (pos j : Nat) (h : j < l.length / 2) : (st l pos)[j]? = some (.int .u8 (Hex.cv l pos j : Int)) := by
  unfold st
  rw [List.getElem?_toArray, List.getElem?_map, List.getElem?_range h]
  rfl
theorem st_size (l : List UInt8) (pos : Nat) : (st l pos).size = l.length / 2 := by unfold st; rw [List.size_toArray, List.length_map, List.length_range]
theorem st_zero (l : List UInt8) : st l 0 = madeCells #[.int .u8 0] (l.length / 2 * 1) := by
  apply Array.ext_getElem?
  intro j
  by_cases h : j < l.length / 2
  · rw [st_get l 0 j h]
    have e : Hex.cv l 0 j = 0 := by simp [Hex.cv]
    rw [e]
    simp [madeCells, h, Nat.mod_one]
  · rw [Array.getElem?_eq_none (by rw [st_size]; omega), Array.getElem?_eq_none (by simp [madeCells]; omega)]
theorem st_step (l : List UInt8) (pos : Nat) (v : Nat) (h : pos / 2 < l.length / 2) (hv : (v : Nat) = Hex.cv l (pos + 1) (pos / 2)) :
    (st l pos).setIfInBounds (pos / 2) (.int .u8 (v : Int)) = st l (pos + 1) := by
  apply Array.ext_getElem?
  intro j
  rw [Array.getElem?_setIfInBounds]
  by_cases hj : pos / 2 = j
  · subst hj
    rw [if_pos rfl, if_pos (by rw [st_size]; exact h), st_get _ _ _ h, hv]
  · rw [if_neg hj]
    by_cases h2 : j < l.length / 2
    · rw [st_get _ _ _ h2, st_get _ _ _ h2]
      have e : Hex.cv l pos j = Hex.cv l (pos + 1) j := by
        unfold Hex.cv
        by_cases a : 2 * j + 1 < pos
        · rw [if_pos a, if_pos (by omega)]
        · rw [if_neg a, if_neg (c := 2 * j + 1 < pos + 1) (by omega)]
          rw [if_neg (by omega), if_neg (by omega)]
      rw [e]
    · rw [Array.getElem?_eq_none (by rw [st_size]; omega), Array.getElem?_eq_none (by rw [st_size]; omega)]
theorem or_low0 : ∀ a : Nat, a < 16 → ∀ b : Nat, b < 16 → bits BinOp.or IntKind.u8 ((a : Int) * 16 % 256) (b : Int) = ((16 * a + b : Nat) : Int) := by decide +kernel
theorem or_low (a b : Nat) (ha : a < 16) (hb : b < 16) : bits BinOp.or IntKind.u8 ((a : Int) * 16 % 256) (b : Int) = ((16 * a + b : Nat) : Int) := or_low0 a ha b hb
theorem cv_step (l : List UInt8) (pos : Nat) (hlt : pos < l.length) (h : ∀ j, j < pos → Hex.val (l.getD j 0) < 16) (hv : Hex.val l[pos] < 16) :
    bits BinOp.or IntKind.u8 ((Hex.cv l pos (pos / 2) : Int) * 16 % 256) (Hex.val l[pos] : Int) = ((Hex.cv l (pos + 1) (pos / 2) : Nat) : Int) := by
  have e0 : l.getD pos 0 = l[pos] := by simp [hlt]
  by_cases hp : pos % 2 = 0
  · have e1 : Hex.cv l pos (pos / 2) = 0 := by unfold Hex.cv; rw [if_neg (by omega), if_neg (by omega)]
    have e2 : Hex.cv l (pos + 1) (pos / 2) = Hex.val l[pos] := by
      unfold Hex.cv
      have e : 2 * (pos / 2) = pos := by omega
      rw [e, if_neg (by omega), if_pos (by omega), e0]
    rw [e1, e2]
    have := or_low 0 (Hex.val l[pos]) (by omega) hv
    simpa using this
  · have e : 2 * (pos / 2) + 1 = pos := by omega
    have e1 : Hex.cv l pos (pos / 2) = Hex.val (l.getD (2 * (pos / 2)) 0) := by unfold Hex.cv; rw [if_neg (by omega), if_pos (by omega)]
    have e2 : Hex.cv l (pos + 1) (pos / 2) = 16 * Hex.val (l.getD (2 * (pos / 2)) 0) + Hex.val l[pos] := by
      unfold Hex.cv
      rw [if_pos (by omega), e, e0]
    rw [e1, e2]
    exact or_low _ _ (h _ (by omega)) hv

theorem value_any (c : Int) (x : UInt8) (h : c = (x.toNat : Int) ∨ (128 ≤ c ∧ 102 < x.toNat)) (w : World) : Calls Tryz.prog 13 #[.int .i32 c] w fun e w' => e = .returned (.int .i64 (vi x)) ∧ w = w' := by
  by_cases h1 : x.toNat ≤ 102
  · rcases h with rfl | h
    · exact value_small x h1 w
    · omega
  · rw [vi_none x (by omega)]
    exact value_great c (by omega) w

theorem bytes_walk (l : List UInt8) (hl : l.length ≤ 2000) (w : World) : Calls Tryz.prog 6 #[.string ⟨l.toArray⟩] w (BytesRes w l) := by
  obtain ⟨i0, hi, hz0, hz1, hz2⟩ := info_parts byte_info
  have hmk := fun W => run_make_rowN (P := Tryz.prog) 22 5 i0 _ Tryz.underlying22 hi hz0 .i64 .i64 (l.length / 2) (l.length / 2) (by omega) (by rw [hz2]; omega) (by omega) W
  simp only [hz1] at hmk
  have hmc : madeCells (Value.int .u8 0).cells (l.length / 2 * 1) = st l 0 := (st_zero l).symm
  have hmi : ((l.length / 2 : Nat) : Int) = (l.length : Int) / 2 := by omega
  rw [hmc, hmi] at hmk
  clear hmc hi hz0 hz1 hz2 hmi
  have hsz : (⟨l.toArray⟩ : ByteArray).size = l.length := by simp [ByteArray.size]
  go_enter Tryz.func6, Tryz.ntmps6
  go_wp2
  go_loopw [] (fun wr => ∃ pos : Nat, pos ≤ l.length ∧ (l.length % 2 = 1 → pos = 0) ∧ (∀ j, j < pos → Hex.val (l.getD j 0) < 16) ∧ Blk wr w.heap.size 5 (st l pos) ∧ wr.heap[w.heap.size + 1]? = some (.stringIter ⟨l.toArray⟩ pos) ∧ Below w.heap.size w wr) (fun wr => l.length - wr.iterPos (w.heap.size + 1))
  case atStart =>
    refine ⟨0, by omega, fun _ => rfl, fun j hj => absurd hj (by omega), ?_, ?_, ((Below.refl _ w).alloc (Nat.le_refl _) _).alloc (by simp) _⟩
    · exact (Blk.new w 5 (st l 0)).alloc _
    · have := World.iter_heap (w.alloc (.cells (st l 0) 5)) ⟨l.toArray⟩ 0
      simpa using this
  case round =>
    obtain ⟨pos, hp, hodd, hgood, hblk, hit, hbw⟩ := hrel
    by_cases hlt : pos < l.length
    · have hlt' : pos < (⟨l.toArray⟩ : ByteArray).size := by omega
      have hnx : ∀ ty, (Instr.next (.pointer (some ⟨w.heap.size + 1, 0, none⟩)) true ty).run Tryz.prog wr = _ := fun ty => Lib.run_next_any_at wr (w.heap.size + 1) ⟨l.toArray⟩ pos ty hit hlt'
      have hx : (((Utf8.decode ⟨l.toArray⟩ pos).1 : Nat) : Int) = (l[pos].toNat : Int) ∨ (128 ≤ (((Utf8.decode ⟨l.toArray⟩ pos).1 : Nat) : Int) ∧ 102 < l[pos].toNat) := by
        by_cases ha : ((⟨l.toArray⟩ : ByteArray)[pos]'hlt').toNat < 128
        · rw [decode_ascii _ pos hlt' ha]
          exact Or.inl rfl
        · have h := (decode_high ⟨l.toArray⟩ pos hlt' (by omega)).1
          refine Or.inr ⟨by omega, ?_⟩
          have e : ((⟨l.toArray⟩ : ByteArray)[pos]'hlt') = l[pos] := rfl
          rw [e] at ha
          omega
      have hd1 := decode_le ⟨l.toArray⟩ pos
      have H := Lib.hid (value_any _ l[pos] hx)
      clear hx
      have hgk : Hid (∀ j, j < pos → Hex.val (l.getD j 0) < 16) := hide hgood
      clear hgood
      have hho := Lib.hid hodd
      clear hodd
      by_cases hv : Hex.val l[pos] < 16
      · have hvi : vi l[pos] = (Hex.val l[pos] : Int) := by unfold vi; rw [if_pos hv]
        rw [hvi] at H
        clear hvi
        have hn0 : decide ((Hex.val l[pos] : Int) < 0) = false := decide_eq_false (by omega)
        by_cases ho : l.length % 2 = 0
        · clear H hnx
          have ho2 : ((l.length : Int) % 2 != 0) = false := by
            have : (l.length : Int) % 2 = 0 := by omega
            rw [this]; rfl
          have hj : pos / 2 < l.length / 2 := by omega
          have ho3 := Lib.hid ho
          clear ho
          have h128 : l[pos].toNat < 128 := by
            by_cases h : l[pos].toNat ≤ 102
            · omega
            · exfalso
              unfold Hex.val at hv
              rw [if_neg (c := 48 ≤ l[pos].toNat ∧ l[pos].toNat ≤ 57) (by omega), if_neg (c := 97 ≤ l[pos].toNat ∧ l[pos].toNat ≤ 102) (by omega)] at hv
              omega
          have H := Lib.hid (value_any (l[pos].toNat : Int) l[pos] (Or.inl rfl))
          have hvi : vi l[pos] = (Hex.val l[pos] : Int) := by unfold vi; rw [if_pos hv]
          rw [hvi] at H
          clear hvi
          have hnx : ∀ ty, (Instr.next (.pointer (some ⟨w.heap.size + 1, 0, none⟩)) true ty).run Tryz.prog wr = .ok (.tuple #[.bool true, .int .i64 pos, .int .i32 (l[pos].toNat : Int)]) (wr.iterAt (w.heap.size + 1) ⟨l.toArray⟩ (pos + 1)) := fun ty => Lib.run_next_ascii_at wr (w.heap.size + 1) ⟨l.toArray⟩ pos ty hit hlt' h128
          have hb2 : Blk (wr.iterAt (w.heap.size + 1) ⟨l.toArray⟩ (pos + 1)) w.heap.size 5 (st l pos) := (Lib.iterAt_other _ _ _ _ _ (by omega)).trans hblk
          have hlc := (hb2.cell (pos / 2)).trans (st_get l pos (pos / 2) hj)
          have hfr := hb2.frozen (pos / 2)
          go_wp2_with (go_at_call 13; refine (H.out _).mono ?_; rintro e w' ⟨rfl, rfl⟩)
          have hcs := cv_step l pos hlt (unhide hgk) hv
          go_roundw
          case rel =>
            refine ⟨pos + 1, by omega, fun h => absurd h (by have := ho3.out; omega), ?_, ?_, ?_, ?_⟩
            · intro j hj
              by_cases e : j < pos
              · exact unhide hgk j e
              · have e : j = pos := by omega
                subst e
                simpa [hlt] using hv
            · rw [hcs]
              have := hb2.set_ (pos / 2) (.int .u8 ((Hex.cv l (pos + 1) (pos / 2) : Nat) : Int))
              rw [st_step l pos _ hj rfl] at this
              exact this
            · exact (Below.heap_setCell _ _ _ _ (by simp)).trans (Lib.iterAt_heap wr _ _ _ _ hit)
            · exact (Lib.below_iterAt hbw (by omega) _ _).setCell (by simp) _
          case measure =>
            have e2 : ((wr.iterAt (w.heap.size + 1) ⟨l.toArray⟩ (pos + 1)).setCell ⟨w.heap.size, pos / 2, none⟩ (.int .u8 (bits BinOp.or IntKind.u8 (↑(Hex.cv l pos (pos / 2)) * 16 % 256) ↑(Hex.val l[pos])))).heap[w.heap.size + 1]? = some (.stringIter ⟨l.toArray⟩ (pos + 1)) := (Below.heap_setCell _ _ _ _ (by simp)).trans (Lib.iterAt_heap wr _ _ _ _ hit)
            simp only [World.iterPos, e2, hit]
            omega
        · have ho2 : ((l.length : Int) % 2 != 0) = true := by
            have : (l.length : Int) % 2 = 1 := by omega
            rw [this]; rfl
          have ho3 := Lib.hid ho
          clear ho
          go_wp2_with (go_at_call 13; refine (H.out _).mono ?_; rintro e w' ⟨rfl, rfl⟩)
          refine bodyPost_ret (v := .tuple #[.slice none 0 0, .bool false]) (by simp [results, Tryz.results6, go_sem]) rfl ?_
          exact res_none (Hex.un_odd _ (by have := ho3.out; omega)) (Lib.below_iterAt hbw (by omega) _ _)
      · have hvi : vi l[pos] = -1 := by unfold vi; rw [if_neg hv]
        rw [hvi] at H
        clear hvi
        go_wp2_with (go_at_call 13; refine (H.out _).mono ?_; rintro e w' ⟨rfl, rfl⟩)
        refine bodyPost_ret (v := .tuple #[.slice none 0 0, .bool false]) (by simp [results, Tryz.results6, go_sem]) rfl ?_
        exact res_none (Hex.un_bad _ pos (by omega) (by simpa [hlt] using hv)) (Lib.below_iterAt hbw (by omega) _ _)
    · have hnx : ∀ ty, (Instr.next (.pointer (some ⟨w.heap.size + 1, 0, none⟩)) true ty).run Tryz.prog wr = _ := fun ty => Lib.run_next_end_at wr (w.heap.size + 1) ⟨l.toArray⟩ pos ty hit (by omega)
      go_wp2
      refine bodyPost_ret (v := .tuple #[.slice (some ⟨w.heap.size, 0, none⟩) (l.length / 2) (l.length / 2), .bool (decide (0 < (l.length : Int) / 2))]) (by simp [results, Tryz.results6, go_sem]) rfl ?_
      have hpe : pos = l.length := by omega
      subst hpe
      have hu := Hex.un_good l (by omega) hgood
      have ho : Hex.out l = (List.range (l.length / 2)).map fun j => UInt8.ofNat (Hex.cv l l.length j) := by simp [Hex.out, hu]
      have hlen : (Hex.out l).length = l.length / 2 := by rw [ho]; simp
      have hk : Hex.ok l = decide (0 < (l.length : Int) / 2) := by
        unfold Hex.ok
        rw [hu]
        cases l with
        | nil => rfl
        | cons a t =>
          simp at hodd ⊢
          omega
      refine ⟨some ⟨w.heap.size, 0, none⟩, l.length / 2, l.length / 2, by rw [hk], hlen.symm, ⟨?_, fun h0 => ⟨_, rfl, hblk.lt, ?_⟩⟩, hbw⟩
      · rw [Lib.byteCells_length, hlen]; omega
      · intro j u hu
        have e : Lib.byteCells (Hex.out l) = (st l l.length).toList := by
          rw [ho]
          unfold st Lib.byteCells
          rw [List.map_map]
          apply List.map_congr_left
          intro k hk
          have hk := List.mem_range.1 hk
          have h1 : Hex.cv l l.length k < 256 := by
            have a := hgood (2 * k) (by omega)
            have b := hgood (2 * k + 1) (by omega)
            unfold Hex.cv
            split
            · omega
            · split <;> omega
          simp [Nat.mod_eq_of_lt h1]
        rw [e] at hu
        have h := hblk.cell j
        rw [← Array.getElem?_toList] at h
        have e3 : (⟨w.heap.size, 0, none⟩ : Addr).add j = ⟨w.heap.size, j, none⟩ := by simp [Addr.add]; omega
        rw [e3]
        exact h.trans hu
end Go.Proofs.YtkfogknohmkbpaaGreatDoor
