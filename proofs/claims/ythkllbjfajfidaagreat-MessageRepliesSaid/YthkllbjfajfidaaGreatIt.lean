/- 'for k, v := range m' where the iterator lies in a block that others may follow: the step and the entry. -/
import Derived.Test.YthkllbjfajfidaaGreatRb
import Derived.MapKept
import Derived.Laws.IdiomRangeMap
namespace Go.Proofs.YthkllbjfajfidaaGreat
open Go.RowKit
variable {P : Program}

theorem setObj_at (w : World) (g : Nat) (o o' : Obj) (ho : w.heap[g]? = some o) (hn : ∀ c e f, o ≠ .cells c e f) : ∃ w1 : World, (setObj g o').run P w = .ok () w1 ∧ w1.heap = w.heap.setIfInBounds g o' ∧ w1.os = w.os ∧ w1.tape = w.tape ∧ w1.output = w.output := by
  simp only [setObj, Sem.run, ho]
  cases o with
  | cells c e f => exact absurd rfl (hn c e f)
  | _ => exact ⟨_, rfl, rfl, rfl, rfl, rfl⟩

theorem run_next_at (w : World) (ty : TypeId) (g r since c0 : Nat) (seen : Array Nat) (es : Array MapEntry) (clock : Nat) (hi : w.heap[g]? = some (.mapIter (some r) since seen c0)) (hb : w.heap[r]? = some (.map es clock))
    (hold : ∀ x ∈ es.toList, x.born < since) (hsc : since ≤ c0) :
    ((leftOf es seen).size = 0 ∧ (Instr.next (.pointer (some ⟨g, 0, none⟩)) false ty).run P w = .ok (.tuple #[.bool false]) w) ∨
    ∃ e ∈ (leftOf es seen).toList, ∃ w1 : World, (Instr.next (.pointer (some ⟨g, 0, none⟩)) false ty).run P w = .ok (.tuple #[.bool true, e.key, e.val]) w1 ∧
      w1.heap = w.heap.setIfInBounds g (.mapIter (some r) since (seen.push e.born) clock) ∧ w1.os = w.os ∧ w1.tape = w.tape ∧ w1.output = w.output := by
  simp only [Instr.next, getObj, Sem.run_bind, Sem.run, hi, hb, Result.andThen, next_test_false seen es since c0 hold hsc, Bool.false_eq_true, if_false]
  unfold leftOf
  have hmem : ∀ x ∈ (Array.filter (fun e => !seen.contains e.born) es).toList, x.born < since := fun x hx => hold x (by simp at hx ⊢; exact hx.1)
  generalize Array.filter (fun e => !seen.contains e.born) es = L at hmem ⊢
  have e1 : L.filter (fun x => decide (x.born < since)) = L := Array.filter_eq_self.2 (fun x hx => by simpa using hmem x (by simpa using hx))
  have e2 : L.filter (fun x => decide (x.born ≥ since)) = #[] := by
    rw [Array.filter_eq_empty_iff]
    intro x hx
    have := hmem x (by simpa using hx)
    simp
    omega
  simp only [e1, e2, Array.append_empty]
  by_cases h0 : L.size = 0
  · left
    have : L = #[] := Array.eq_empty_of_size_eq_zero h0
    subst this
    refine ⟨rfl, ?_⟩
    simp [choose, Sem.run, Question.forced]
  · right
    have hne : L.isEmpty = false := by simp [Array.isEmpty, h0]
    simp only [hne, Bool.false_eq_true, if_false, Array.empty_append, Array.size_map]
    have hch : ∃ (j : Nat) (w1 : World), j < L.size ∧ w1.heap = w.heap ∧ w1.os = w.os ∧ w1.tape = w.tape ∧ w1.output = w.output ∧ (choose (Question.mapNext L.size)).run P w = .ok j w1 := by
      by_cases hf : L.size ≤ 1
      · exact ⟨0, w, by omega, rfl, rfl, rfl, rfl, by simp [choose, Sem.run, Question.forced, hf]⟩
      · exact ⟨_, w.drew, Nat.mod_lt _ (by omega), rfl, rfl, rfl, rfl, by
          simp only [choose, Sem.run, Question.forced, decide_eq_true_eq, hf, if_false, Question.cut]
          rfl⟩
    obtain ⟨j, w1, hj, hh, ho, ht, hou, hrun⟩ := hch
    obtain ⟨w2, hset, k1, k2, k3, k4⟩ := setObj_at (P := P) w1 g (.mapIter (some r) since seen c0) (.mapIter (some r) since (seen.push L[j].born) clock) (by rw [hh]; exact hi) (fun _ _ _ h => by cases h)
    refine ⟨L[j], by simp, w2, ?_, by rw [k1, hh], by rw [k2, ho], by rw [k3, ht], by rw [k4, hou]⟩
    simp only [hrun, Array.getElem?_map, Array.getElem?_eq_getElem hj, Option.map_some, Sem.run_bind, hset, Result.andThen]
    rfl
theorem run_entry_at (w : World) (g r since clock : Nat) (seen : Array Nat) (es : Array MapEntry) (e : MapEntry) (hi : w.heap[g]? = some (.mapIter (some r) since (seen.push e.born) clock)) (hb : w.heap[r]? = some (.map es clock)) (he : e ∈ es.toList) (hn : (es.toList.map (·.born)).Nodup) :
    (Instr.entry (.pointer (some ⟨g, 0, none⟩))).run P w = .ok (.tuple #[e.key, e.val]) w := by
  have hf : es.find? (·.born == e.born) = some e := by rw [← Array.find?_toList]; exact find_born e es.toList hn he
  simp only [Instr.entry, getObj, Sem.run_bind, Sem.run, hi, hb, Result.andThen, Array.back?_push, bne_self_eq_false, Bool.false_eq_true, if_false, hf]
  rfl
/-- The iterator in block g over the map in block r. -/
def IterIn (w : World) (g r since : Nat) (seen : Array Nat) : Prop := w.heap[g]? = some (.mapIter (some r) since seen since)
theorem IterIn.lt {w : World} {g r since : Nat} {seen : Array Nat} (h : IterIn w g r since seen) : g < w.heap.size := (Array.getElem?_eq_some_iff.1 h).1
theorem IterIn.gr {w w' : World} {g r since : Nat} {seen : Array Nat} (h : IterIn w g r since seen) (k : Gr w w') : IterIn w' g r since seen := (Below.block k g h.lt).trans h
/-- The step, as the walk wants it: the world's old blocks are as they were. -/
theorem iter_step (W0 w : World) (ty : TypeId) (g r since : Nat) (seen : Array Nat) (es : Array MapEntry) (hg : W0.heap.size ≤ g) (hi : IterIn w g r since seen) (hb : w.heap[r]? = some (.map es since)) (hr : r ≠ g) (hG : Gr W0 w)
    (hold : ∀ x ∈ es.toList, x.born < since) (hn : (es.toList.map (·.born)).Nodup) :
    ((leftOf es seen).size = 0 ∧ (Instr.next (.pointer (some ⟨g, 0, none⟩)) false ty).run P w = .ok (.tuple #[.bool false]) w) ∨
    ∃ e ∈ es.toList, ∃ w1 : World, (Instr.next (.pointer (some ⟨g, 0, none⟩)) false ty).run P w = .ok (.tuple #[.bool true, e.key, e.val]) w1 ∧ (Instr.entry (.pointer (some ⟨g, 0, none⟩))).run P w1 = .ok (.tuple #[e.key, e.val]) w1 ∧
      IterIn w1 g r since (seen.push e.born) ∧ (leftOf es (seen.push e.born)).size < (leftOf es seen).size ∧ w1.heap[r]? = some (.map es since) ∧ Gr W0 w1 := by
  rcases run_next_at (P := P) w ty g r since since seen es since hi hb hold (Nat.le_refl _) with h | ⟨e, he, w1, h1, h2, h3, h4, h5⟩
  · exact .inl h
  · right
    have hgl := IterIn.lt hi
    have hee : e ∈ es.toList := by
      unfold leftOf at he
      simp at he ⊢
      exact he.1
    have hi1 : IterIn w1 g r since (seen.push e.born) := by
      unfold IterIn
      rw [h2]
      simp [hgl]
    have hb1 : w1.heap[r]? = some (.map es since) := by
      rw [h2, Array.getElem?_setIfInBounds_ne (Ne.symm hr)]
      exact hb
    refine ⟨e, hee, w1, h1, run_entry_at w1 g r since since seen es e hi1 hb1 hee hn, hi1, ?_, hb1, ?_⟩
    · unfold leftOf at he ⊢
      have : e ∈ (es.filter fun x => !seen.contains x.born) := by simpa using he
      rw [show (es.filter fun x => !(seen.push e.born).contains x.born) = (es.filter fun x => !seen.contains x.born).filter (fun x => !(x.born == e.born)) from by
        rw [Array.filter_filter]
        congr 1
        funext x
        simp
        by_cases q : x.born = e.born <;> simp [q]]
      obtain ⟨L, hL⟩ : ∃ L, L = (es.filter fun x => !seen.contains x.born) := ⟨_, rfl⟩
      rw [← hL] at this ⊢
      have hlt : (L.toList.filter (fun x => !(x.born == e.born))).length < L.toList.length := by
        refine List.length_filter_lt_length_iff_exists.2 ⟨e, by simpa using this, by simp⟩
      have e1 : (L.filter (fun x => !(x.born == e.born))).size = (L.toList.filter (fun x => !(x.born == e.born))).length := by rw [← Array.length_toList, Array.toList_filter]
      rw [e1]
      exact hlt
    · refine Below.trans hG ⟨h3, h4, h5, by rw [h2]; simp, fun k hk => ?_⟩
      rw [h2, Array.getElem?_setIfInBounds_ne (by omega)]
end Go.Proofs.YthkllbjfajfidaaGreat
