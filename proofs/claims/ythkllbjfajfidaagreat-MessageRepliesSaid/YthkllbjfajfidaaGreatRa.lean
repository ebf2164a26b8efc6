/- The last operations of a region that draws its order: a struct stored whole, a value assigned; bytes as a string. -/
import Derived.Test.YthkllbjfajfidaaGreatRb
import Derived.Laws.Tables
import Derived.Laws.BytesArg
namespace Go.Proofs.YthkllbjfajfidaaGreat
open Go.RowKit
section
variable {P : Program} {ops : Array Oper} {Q : Exit → Act → World → Prop}

theorem any_store {i fuel : Nat} {listed : Array Bool} {a : Act} {w : World} {o : Oper} (hr : Region.ready .any ops listed = [i]) (ho : ops[i]? = some o) (hgd : o.guard = none) (ty : TypeId) (x y : Operand) (hop : o.op = .store ty x y) (hd : o.dst = none)
    (g : Nat) (cells : Array Value) (hx : a.eval x = .pointer (some ⟨g, 0, none⟩)) (hy : a.eval y = .agg cells) (t : TypeId) (old : Array Value) (hg : w.heap[g]? = some (.cells old t (0, 0))) (hi : (P.info? ty).map (·.size) = some cells.size)
    (hold : old.size = cells.size) (h1 : cells.all (·.oneCell') = true) (h : wpAny P .any ops Q fuel (listed.setIfInBounds i true) a (w.setRow g cells)) : wpAny P .any ops Q (fuel + 1) listed a w := by
  refine wpAny_ready hr (by simp) (AllReady.cons ho (fun K hK => ?_) AllReady.nil)
  have hw : Region.wanted o (yielded ops a.tmps) = true := by simp [Region.wanted, hgd]
  rw [if_pos hw]
  refine wp_store_row ty x y hop g cells hx hy t old hg hi hold h1 ?_
  rw [hd]
  exact hK _ _ h
theorem any_assign {i fuel : Nat} {listed : Array Bool} {a : Act} {w : World} {o : Oper} (hr : Region.ready .any ops listed = [i]) (ho : ops[i]? = some o) (hgd : o.guard = none) (x : Operand) (hop : o.op = .assign x) (v : Value) (hx : a.eval x = v)
    (h : wpAny P .any ops Q fuel (listed.setIfInBounds i true) (a.put o.dst v) w) : wpAny P .any ops Q (fuel + 1) listed a w := by
  refine wpAny_ready hr (by simp) (AllReady.cons ho (fun K hK => ?_) AllReady.nil)
  have hw : Region.wanted o (yielded ops a.tmps) = true := by simp [Region.wanted, hgd]
  rw [if_pos hw]
  unfold Oper.wp
  simp only [execOp, hop, hx]
  exact hK _ _ h
end
/-- 'string(b)'. -/
theorem run_string {P : Program} (w : World) (src dst e : TypeId) (hs : P.underlying src = some (.slice e)) (he : P.underlying e = some (.int .u8)) (hd : P.underlying dst = some .string) (v : Value) (l : List UInt8) (h : IsB w v l) :
    (convert src dst v).run P w = .ok (.string ⟨l.toArray⟩) w := by
  obtain ⟨A, c, rfl, _, _, hb⟩ := h
  cases A with
  | none =>
    have hl : l = [] := by
      cases l with
      | nil => rfl
      | cons x l =>
        obtain ⟨ad, h, _⟩ := hb.at_ (k := 0) (by simp)
        cases h
    subst hl
    exact run_convert_bytes_nil w src e hs he _ c dst hd
  | some ad =>
    have hl : (loadCells ad l.length).run P w = .ok ((l.map fun x => (x.toNat : Int)).map (Value.int .u8)).toArray w := by
      have := run_loadCells_list (P := P) w ad (cellsB l) (fun j v hj => by
        have hjl : j < l.length := by
          have := (List.getElem?_eq_some_iff.1 hj).1
          rwa [cellsB_length] at this
        obtain ⟨ad', e1, _, e2⟩ := hb.at_ hjl
        injection e1 with e1
        subst e1
        rw [e2]
        simpa [cellsB, hjl] using hj)
      rw [cellsB_length] at this
      rw [this]
      simp [cellsB, byteV]
    rw [run_convert_bytes_string w src dst e _ l.length c hs he hd, run_bytesToString w _ l.length c _ hl, foldl_push_bytes]
    have hm : l.map ((fun n : Int => UInt8.ofNat n.toNat) ∘ fun x : UInt8 => (x.toNat : Int)) = l := by
      conv => rhs; rw [← List.map_id l]
      apply List.map_congr_left
      intro x _
      simp
    simp only [List.map_map, hm, ByteArray.empty, ByteArray.emptyWithCapacity]
    congr 3
    exact Array.toList_inj.1 (by simp; rfl)
end Go.Proofs.YthkllbjfajfidaaGreat
