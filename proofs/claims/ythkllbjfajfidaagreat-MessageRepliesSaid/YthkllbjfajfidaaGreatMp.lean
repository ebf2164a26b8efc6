/- Laws of the model on a map that a call makes: an entry laid, an entry looked up, whatever the values are. -/
import Derived.WalkKit
import Derived.MapKept
import Derived.Laws.IdiomRangeMap
namespace Go.Proofs.YthkllbjfajfidaaGreat
open Go.RowKit

section
variable {P : Program}

theorem setObj_last (w : World) (o o' : Obj) (ho : ∀ c e f, o ≠ .cells c e f) : (setObj w.heap.size o').run P (w.alloc o) = .ok () (w.alloc o') := by
  simp only [setObj, Sem.run, heap_alloc_new]
  have hp : ∀ (h : Array Obj) (x y : Obj), (h.push x).setIfInBounds h.size y = h.push y := by
    intro h x y
    apply Array.toList_inj.1
    simp
  cases o with
  | cells c e f => exact absurd rfl (ho c e f)
  | _ => simp only [World.alloc, hp]

/-- An entry with a new key, laid into a map that is the last block. -/
theorem run_insert_new {t kt et : TypeId} {D : TypeDesc} (ht : P.underlying t = some (.map kt et)) (hk : P.underlying kt = some D) (K : Value)
    (hck : ∀ w, (Instr.checkKey false 10000 kt K).run P w = .ok () w) (w : World) (es : Array MapEntry) (c : Nat) (v : Value) (hf : Instr.findNow D K es.toList 0 = some none) :
    (Instr.mapUpdate t (.map (some w.heap.size)) K v).run P (w.alloc (.map es c)) = .ok () (w.alloc (.map (es.push { key := K, val := v, born := c }) (c + 1))) := by
  have hg : (getObj w.heap.size).run P (w.alloc (.map es c)) = .ok (.map es c) (w.alloc (.map es c)) := MapKept.run_getObj_map (heap_alloc_new w _)
  simp [Instr.mapUpdate, run_underlying ht, hg, hck, Instr.findKey, run_underlying hk, hf]
  exact setObj_last w _ _ (fun _ _ _ h => by cases h)

/-- 'v, ok := m[k]', the key there. -/
theorem run_lookup_hit {t kt et : TypeId} {D : TypeDesc} (ht : P.underlying t = some (.map kt et)) (hk : P.underlying kt = some D) (K : Value)
    (hck : ∀ b w, (Instr.checkKey b 10000 kt K).run P w = .ok () w) (w : World) (r : Nat) (es : Array MapEntry) (c : Nat) (hr : w.heap[r]? = some (.map es c)) (i : Nat) (v : Value) (hf : Instr.findNow D K es.toList 0 = some (some (i, v))) :
    (Instr.lookup t (.map (some r)) K true).run P w = .ok (.tuple #[v, .bool true]) w := by
  have hg : (getObj r).run P w = .ok (.map es c) w := MapKept.run_getObj_map hr
  simp [Instr.lookup, run_underlying ht, hg, hck, Instr.findKey, run_underlying hk, hf]

theorem run_lookup_miss {t kt et : TypeId} {D : TypeDesc} (ht : P.underlying t = some (.map kt et)) (hk : P.underlying kt = some D) (K z : Value)
    (hck : ∀ b w, (Instr.checkKey b 10000 kt K).run P w = .ok () w) (hz : ∀ w, (zeroValue et).run P w = .ok z w) (w : World) (r : Nat) (es : Array MapEntry) (c : Nat) (hr : w.heap[r]? = some (.map es c)) (hf : Instr.findNow D K es.toList 0 = some none) :
    (Instr.lookup t (.map (some r)) K true).run P w = .ok (.tuple #[z, .bool false]) w := by
  have hg : (getObj r).run P w = .ok (.map es c) w := MapKept.run_getObj_map hr
  simp [Instr.lookup, run_underlying ht, hg, hck, Instr.findKey, run_underlying hk, hf, hz]

/-- The same, the block's number a letter. -/
theorem run_insert_at {t kt et : TypeId} {D : TypeDesc} (ht : P.underlying t = some (.map kt et)) (hk : P.underlying kt = some D) (K : Value)
    (hck : ∀ w, (Instr.checkKey false 10000 kt K).run P w = .ok () w) (w : World) (b : Nat) (hb : w.heap.size = b) (es es' : Array MapEntry) (c c' : Nat) (v : Value) (hf : Instr.findNow D K es.toList 0 = some none) (he : es.push { key := K, val := v, born := c } = es') (hc : c + 1 = c') :
    (Instr.mapUpdate t (.map (some b)) K v).run P (w.alloc (.map es c)) = .ok () (w.alloc (.map es' c')) := by
  subst hb
  subst he
  subst hc
  exact run_insert_new ht hk K hck w es c v hf
/-- 'm[k]', the key there. -/
theorem run_lookup_hit1 {t kt et : TypeId} {D : TypeDesc} (ht : P.underlying t = some (.map kt et)) (hk : P.underlying kt = some D) (K : Value)
    (hck : ∀ b w, (Instr.checkKey b 10000 kt K).run P w = .ok () w) (w : World) (r : Nat) (es : Array MapEntry) (c : Nat) (hr : w.heap[r]? = some (.map es c)) (i : Nat) (v : Value) (hf : Instr.findNow D K es.toList 0 = some (some (i, v))) :
    (Instr.lookup t (.map (some r)) K false).run P w = .ok v w := by
  have hg : (getObj r).run P w = .ok (.map es c) w := MapKept.run_getObj_map hr
  simp [Instr.lookup, run_underlying ht, hg, hck, Instr.findKey, run_underlying hk, hf]

theorem check_string {kt : TypeId} (hk : P.underlying kt = some .string) (b : Bool) (s : ByteArray) (w : World) : (Instr.checkKey b 10000 kt (.string s)).run P w = .ok () w := by
  have h : ∀ n : Nat, (Instr.checkKey b (n + 1) kt (.string s)).run P w = .ok () w := fun n => by
    rw [Instr.checkKey]
    simp only [Sem.run_bind, run_underlying hk, Result.andThen_ok]
    rfl
  exact h 9999
theorem check_int {kt : TypeId} {k : IntKind} (hk : P.underlying kt = some (.int k)) (b : Bool) (n : Int) (w : World) : (Instr.checkKey b 10000 kt (.int k n)).run P w = .ok () w := by
  have h : ∀ m : Nat, (Instr.checkKey b (m + 1) kt (.int k n)).run P w = .ok () w := fun m => by
    rw [Instr.checkKey]
    simp only [Sem.run_bind, run_underlying hk, Result.andThen_ok]
    rfl
  exact h 9999
end
end Go.Proofs.YthkllbjfajfidaaGreat
