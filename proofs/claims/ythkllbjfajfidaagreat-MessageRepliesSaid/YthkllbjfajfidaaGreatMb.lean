/- Walks of message.bodies and message.Bytes. -/
import Derived.Test.YthkllbjfajfidaaGreatMs
import Derived.Test.YthkllbjfajfidaaGreatMp
namespace Go.Proofs.YthkllbjfajfidaaGreat
open Go.RowKit

set_option maxRecDepth 100000
set_option maxHeartbeats 1000000
set_option linter.unusedSimpArgs false

/-- The bodies of a message that has no update and no refresh, as a map's entries. -/
def bodE (a h i : Int) (caps : Value) (c s : Int) (d : Value) : Array MapEntry := #[
  { key := .int .i64 1, val := .iface 87 (.agg #[.int .u32 a, .int .i64 h, .int .u32 i, caps]), born := 0 },
  { key := .int .i64 2, val := .iface 88 (.agg #[.slice none 0 0, .slice none 0 0, .slice none 0 0]), born := 1 },
  { key := .int .i64 3, val := .iface 89 (.agg #[.int .i64 c, .int .i64 s, d]), born := 2 },
  { key := .int .i64 5, val := .iface 90 (.agg #[.int .i64 0, .int .i64 0, .int .i64 0]), born := 3 },
  { key := .int .i64 4, val := .iface 92 (.agg #[]), born := 4 }]
theorem map_int (b : Bool) (n : Int) (w : World) : (Instr.checkKey b 10000 3 (.int .i64 n)).run Tryz.prog w = .ok () w := check_int Tryz.underlying3 b n w

theorem bodies_walk (k a h i : Int) (A : Option Addr) (n1 c1 : Nat) (c s : Int) (B : Option Addr) (n2 c2 : Nat) (w : World) :
    Calls Tryz.prog 18 #[.agg (msgC k a h i (.slice A n1 c1) c s (.slice B n2 c2))] w fun e w' => e = .returned (.map (some (w.heap.size + 1))) ∧ w' = (w.alloc (.cells (msgC k a h i (.slice A n1 c1) c s (.slice B n2 c2)) 41)).alloc (.map (bodE a h i (.slice A n1 c1) c s (.slice B n2 c2)) 5) := by
  unfold msgC bodE
  have hmm := @run_makeMap Tryz.prog
  have ins := fun (n : Int) (es es' : Array MapEntry) (c' c'' : Nat) (v : Value) => run_insert_at (P := Tryz.prog) Tryz.underlying69 Tryz.underlying3 (.int .i64 n) (map_int false n) (w.alloc (.cells #[.int .i64 k, .int .u32 a, .int .i64 h, .int .u32 i, .slice A n1 c1, .slice none 0 0, .slice none 0 0, .slice none 0 0, .int .i64 c, .int .i64 s, .slice B n2 c2, .int .i64 0, .int .i64 0, .int .i64 0] 41)) (w.heap.size + 1) (by simp) es es' c' c'' v
  have i1 := ins 1 #[] _ 0 _ (.iface 87 (.agg #[.int .u32 a, .int .i64 h, .int .u32 i, .slice A n1 c1])) rfl rfl rfl
  have i2 := ins 2 #[{ key := .int .i64 1, val := .iface 87 (.agg #[.int .u32 a, .int .i64 h, .int .u32 i, .slice A n1 c1]), born := 0 }] _ 1 _ (.iface 88 (.agg #[.slice none 0 0, .slice none 0 0, .slice none 0 0])) rfl rfl rfl
  have i3 := ins 3 #[{ key := .int .i64 1, val := .iface 87 (.agg #[.int .u32 a, .int .i64 h, .int .u32 i, .slice A n1 c1]), born := 0 }, { key := .int .i64 2, val := .iface 88 (.agg #[.slice none 0 0, .slice none 0 0, .slice none 0 0]), born := 1 }] _ 2 _ (.iface 89 (.agg #[.int .i64 c, .int .i64 s, .slice B n2 c2])) rfl rfl rfl
  have i4 := ins 5 #[{ key := .int .i64 1, val := .iface 87 (.agg #[.int .u32 a, .int .i64 h, .int .u32 i, .slice A n1 c1]), born := 0 }, { key := .int .i64 2, val := .iface 88 (.agg #[.slice none 0 0, .slice none 0 0, .slice none 0 0]), born := 1 }, { key := .int .i64 3, val := .iface 89 (.agg #[.int .i64 c, .int .i64 s, .slice B n2 c2]), born := 2 }] _ 3 _ (.iface 90 (.agg #[.int .i64 0, .int .i64 0, .int .i64 0])) rfl rfl rfl
  have i5 := ins 4 #[{ key := .int .i64 1, val := .iface 87 (.agg #[.int .u32 a, .int .i64 h, .int .u32 i, .slice A n1 c1]), born := 0 }, { key := .int .i64 2, val := .iface 88 (.agg #[.slice none 0 0, .slice none 0 0, .slice none 0 0]), born := 1 }, { key := .int .i64 3, val := .iface 89 (.agg #[.int .i64 c, .int .i64 s, .slice B n2 c2]), born := 2 }, { key := .int .i64 5, val := .iface 90 (.agg #[.int .i64 0, .int .i64 0, .int .i64 0]), born := 3 }] _ 4 _ (.iface 92 (.agg #[])) rfl rfl rfl
  clear ins
  simp only [List.push_toArray, List.cons_append, List.nil_append] at i1 i2 i3 i4 i5
  go_enter Tryz.func18, Tryz.ntmps18
  go_wp2
  go_ret
  exact ⟨rfl, rfl⟩
end Go.Proofs.YthkllbjfajfidaaGreat
