/- Byte slices: a slice value that reads as a list of bytes; what is made by the call's own rows. -/
import Derived.Test.YthkllbjfajfidaaGreatWords
import Derived.Test.YthkllbjfajfidaaGreatRg
import Derived.Lib.Hide
import Derived.Laws.Tables
namespace Go.Proofs.YthkllbjfajfidaaGreat
open Go.RowKit

def byteV (b : UInt8) : Value := .int .u8 (b.toNat : Int)
def cellsB (l : List UInt8) : List Value := l.map byteV
theorem byteV_one (b : UInt8) : (byteV b).oneCell' = true := rfl
theorem cellsB_one (l : List UInt8) : ∀ u ∈ cellsB l, u.oneCell' = true := fun u hu => by
  obtain ⟨b, _, rfl⟩ := List.mem_map.1 hu
  rfl
theorem cellsB_length (l : List UInt8) : (cellsB l).length = l.length := by simp [cellsB]
theorem cellsB_append (l m : List UInt8) : cellsB (l ++ m) = cellsB l ++ cellsB m := by simp [cellsB]

/-- Cells from an address on. -/
def RC (w : World) (A : Option Addr) (l : List Value) : Prop := Reads w w.heap.size 1 A l.length l
def RB (w : World) (A : Option Addr) (l : List UInt8) : Prop := RC w A (cellsB l)
/-- The value is a slice of these bytes. -/
def IsB (w : World) (v : Value) (l : List UInt8) : Prop := ∃ A c, v = .slice A l.length c ∧ l.length ≤ c ∧ c ≤ maxLen ∧ RB w A l
/-- The value is a slice of these cells. -/
def IsC (w : World) (v : Value) (l : List Value) : Prop := ∃ A c, v = .slice A l.length c ∧ l.length ≤ c ∧ c ≤ maxLen ∧ RC w A l

theorem gr_below {w w' : World} (h : Below w.heap.size w w') : Gr w w' := h
theorem gcell {W w1 : World} (hb : Gr W w1) : (∀ b o, b < W.heap.size → w1.cell? ⟨b, o, none⟩ = W.cell? ⟨b, o, none⟩) ∧ (∀ b o, b < W.heap.size → w1.frozen? ⟨b, o, none⟩ = W.frozen? ⟨b, o, none⟩) :=
  ⟨fun b o h => Below.cell hb (p := ⟨b, o, none⟩) h, fun b o h => Below.frozen hb (p := ⟨b, o, none⟩) h⟩
theorem lt_of_cellB {w : World} {b i : Nat} {v : Value} (h : w.cell? ⟨b, i, none⟩ = some v) : b < w.heap.size := by
  rcases Nat.lt_or_ge b w.heap.size with hl | hl
  · exact hl
  · simp [World.cell?, Array.getElem?_eq_none hl] at h
theorem cell_gr {W w' : World} {b i : Nat} {v : Value} (h : W.cell? ⟨b, i, none⟩ = some v) (hb : Gr W w') : w'.cell? ⟨b, i, none⟩ = some v := (Below.cell hb (p := ⟨b, i, none⟩) (lt_of_cellB h)).trans h
theorem RC.gr {w w' : World} {A : Option Addr} {l : List Value} (h : RC w A l) (hg : Gr w w') : RC w' A l := (Reads.below h hg).more hg.size
theorem RB.gr {w w' : World} {A : Option Addr} {l : List UInt8} (h : RB w A l) (hg : Gr w w') : RB w' A l := RC.gr h hg
theorem IsB.gr {w w' : World} {v : Value} {l : List UInt8} (h : IsB w v l) (hg : Gr w w') : IsB w' v l := by
  obtain ⟨A, c, h1, h2, h3, h4⟩ := h
  exact ⟨A, c, h1, h2, h3, h4.gr hg⟩
theorem IsC.gr {w w' : World} {v : Value} {l : List Value} (h : IsC w v l) (hg : Gr w w') : IsC w' v l := by
  obtain ⟨A, c, h1, h2, h3, h4⟩ := h
  exact ⟨A, c, h1, h2, h3, h4.gr hg⟩
theorem RC.nil (w : World) (A : Option Addr) : RC w A [] := ⟨by simp, fun h => absurd h (by simp)⟩
theorem RB.nil (w : World) (A : Option Addr) : RB w A [] := RC.nil w A
theorem IsB.nil (w : World) : IsB w (.slice none 0 0) [] := ⟨none, 0, rfl, Nat.le_refl _, Nat.zero_le _, RB.nil w none⟩
theorem IsC.nil (w : World) : IsC w (.slice none 0 0) [] := ⟨none, 0, rfl, Nat.le_refl _, Nat.zero_le _, RC.nil w none⟩
theorem RB.reads {w : World} {A : Option Addr} {l : List UInt8} (h : RB w A l) : Reads w w.heap.size 1 A l.length (cellsB l) := by
  have h' : Reads w w.heap.size 1 A (cellsB l).length (cellsB l) := h
  rwa [cellsB_length] at h'
theorem RB.of_reads {w : World} {A : Option Addr} {l : List UInt8} (h : Reads w w.heap.size 1 A l.length (cellsB l)) : RB w A l := by
  show Reads w w.heap.size 1 A (cellsB l).length (cellsB l)
  rwa [cellsB_length]
/-- The byte at an index. -/
theorem RB.at_ {w : World} {A : Option Addr} {l : List UInt8} (h : RB w A l) {k : Nat} (hk : k < l.length) : ∃ ad, A = some ad ∧ ad.block < w.heap.size ∧ w.cell? (ad.add k) = some (byteV l[k]) := by
  obtain ⟨ad, u, h1, h2, h3, h4⟩ := h.reads.at_ hk
  refine ⟨ad, h1, h2, ?_⟩
  rw [h4]
  simp [cellsB, hk] at h3
  rw [h3]
theorem RC.at_ {w : World} {A : Option Addr} {l : List Value} (h : RC w A l) {k : Nat} (hk : k < l.length) : ∃ ad, A = some ad ∧ ad.block < w.heap.size ∧ w.cell? (ad.add k) = some l[k] := by
  obtain ⟨ad, u, h1, h2, h3, h4⟩ := Reads.at_ h hk
  refine ⟨ad, h1, h2, ?_⟩
  rw [h4]
  simp [hk] at h3
  rw [h3]
theorem RC.take {w : World} {A : Option Addr} {l : List Value} (h : RC w A l) (k : Nat) : RC w A (l.take k) := by
  refine ⟨by simp, fun hn => ?_⟩
  have hl : 0 < l.length := by
    simp at hn
    omega
  obtain ⟨ad, h1, h2, h3⟩ := Reads.at_ (k := 0) h hl |> fun _ => h.2 hl
  refine ⟨ad, h1, h2, fun j u hj => h3 j u ?_⟩
  rw [List.getElem?_take] at hj
  split at hj
  · exact hj
  · cases hj
theorem RB.take {w : World} {A : Option Addr} {l : List UInt8} (h : RB w A l) (k : Nat) : RB w A (l.take k) := by
  have := RC.take h k
  unfold RB cellsB at *
  rw [List.map_take]
  exact this
theorem RC.drop {w : World} {A : Option Addr} {l : List Value} (h : RC w A l) {k cap : Nat} (hk : k ≤ l.length) (hc : l.length ≤ cap) : RC w (if cap = k then A else A.map (·.add k)) (l.drop k) := by
  have := Reads.cut h hk hc
  simp only [Nat.mul_one] at this
  unfold RC
  rw [List.length_drop]
  exact this
theorem RB.drop {w : World} {A : Option Addr} {l : List UInt8} (h : RB w A l) {k cap : Nat} (hk : k ≤ l.length) (hc : l.length ≤ cap) : RB w (if cap = k then A else A.map (·.add k)) (l.drop k) := by
  have := RC.drop (cap := cap) h (k := k) (by rw [cellsB_length]; exact hk) (by rw [cellsB_length]; exact hc)
  unfold RB cellsB at *
  rw [List.map_drop]
  exact this
theorem RC.of_block {w : World} {g : Nat} {t : TypeId} {cs : Array Value} (h : Blk w g t cs) : RC w (some ⟨g, 0, none⟩) cs.toList := by
  refine ⟨by simp, fun _ => ⟨_, rfl, h.lt, fun j u hu => ?_⟩⟩
  have e : (⟨g, 0, none⟩ : Addr).add j = ⟨g, j, none⟩ := by simp [Addr.add]; omega
  rw [e, h.cell]
  simpa using hu
theorem RB.of_block {w : World} {g : Nat} {t : TypeId} {cs : Array Value} {l : List UInt8} (h : Blk w g t cs) (hl : cs.toList = cellsB l) : RB w (some ⟨g, 0, none⟩) l := by
  have := RC.of_block h
  rw [hl] at this
  exact this
theorem IsB.of_block {w : World} {g n c : Nat} {t : TypeId} {cs : Array Value} {l : List UInt8} (h : Blk w g t cs) (hl : cs.toList = cellsB l) (hn : l.length = n) (hc : n ≤ c) (hm : c ≤ maxLen) : IsB w (.slice (some ⟨g, 0, none⟩) n c) l := by
  subst hn
  exact ⟨_, _, rfl, hc, hm, RB.of_block h hl⟩
theorem IsC.of_own {w : World} {base : Nat} {e : TypeId} {v : Value} {n : Nat} {xs : List Value} (h : w.ownsRow base e 1 v n xs) : IsC w v xs := by
  have hn : xs.length = n := by simpa using h.1
  subst hn
  rcases h.2 with ⟨rfl, h0⟩ | ⟨g, cap, cur, rfl, hb, hg, hnc, hcm, _⟩
  · have : xs = [] := List.eq_nil_of_length_eq_zero h0
    subst this
    exact IsC.nil w
  · exact ⟨_, _, rfl, hnc, hcm, by have := Reads.of_own h; exact this⟩
theorem IsB.of_own {w : World} {base : Nat} {e : TypeId} {v : Value} {n : Nat} {xs : List Value} {l : List UInt8} (h : w.ownsRow base e 1 v n xs) (hx : xs = cellsB l) : IsB w v l := by
  obtain ⟨A, c, h1, h2, h3, h4⟩ := IsC.of_own h
  subst hx
  rw [cellsB_length] at h1 h2
  exact ⟨A, c, h1, h2, h3, h4⟩
/-- A store into a block that holds no byte leaves a slice of bytes as it was. -/
theorem RB.store {w : World} {A : Option Addr} {l : List UInt8} (h : RB w A l) {p : Addr} (u : Value) (hn : ∀ q : Addr, q.block = p.block → ∀ x, w.cell? q ≠ some (byteV x)) : RB (w.setCell p u) A l := by
  refine ⟨h.1, fun h0 => ?_⟩
  obtain ⟨ad, e, hb, hc⟩ := h.2 h0
  refine ⟨ad, e, by simpa [World.setCell] using hb, fun j v hv => ?_⟩
  have h1 := hc j v hv
  obtain ⟨x, _, hx⟩ := List.mem_map.1 (List.mem_of_getElem? hv)
  rw [World.cell?_setCell_other w p _ u (fun e' => hn (ad.add j) (by rw [e']) x (by rw [h1, hx]))]
  exact h1
theorem IsB.store {w : World} {v : Value} {l : List UInt8} (h : IsB w v l) {p : Addr} (u : Value) (hn : ∀ q : Addr, q.block = p.block → ∀ x, w.cell? q ≠ some (byteV x)) : IsB (w.setCell p u) v l := by
  obtain ⟨A, c, h1, h2, h3, h4⟩ := h
  exact ⟨A, c, h1, h2, h3, h4.store u hn⟩
theorem Blk.noB {w : World} {g : Nat} {t : TypeId} {cs : Array Value} (h : Blk w g t cs) (hn : ∀ c ∈ cs.toList, ∀ x, c ≠ byteV x) : ∀ q : Addr, q.block = g → ∀ x, w.cell? q ≠ some (byteV x) := by
  intro q hq x hx
  obtain ⟨b, o, s⟩ := q
  dsimp only at hq
  subst hq
  unfold Blk at h
  cases s with
  | some s => simp [World.cell?, h] at hx
  | none =>
    rw [cell_of_row w b o cs t (0, 0) h] at hx
    exact hn _ (by simpa using List.mem_of_getElem? (l := cs.toList) (by simpa using hx)) x rfl
theorem Blk.setRow {w : World} {g : Nat} {t : TypeId} {old cs : Array Value} (h : Blk w g t old) : Blk (w.setRow g cs) g t cs := setRow_heap w g old cs t (0, 0) h
theorem Blk.farRow {w : World} {g k : Nat} {t : TypeId} {old cs : Array Value} (h : Blk w g t old) (hk : g ≠ k) : Blk (w.setRow k cs) g t old := (setRow_other w k g cs hk).trans h
theorem RB.setRow {w : World} {A : Option Addr} {l : List UInt8} (h : RB w A l) (g : Nat) (cs : Array Value) (hn : ∀ q : Addr, q.block = g → ∀ x, w.cell? q ≠ some (byteV x)) : RB (w.setRow g cs) A l := by
  refine ⟨h.1, fun h0 => ?_⟩
  obtain ⟨ad, e, hb, hc⟩ := h.2 h0
  refine ⟨ad, e, by simpa using hb, fun j v hv => ?_⟩
  have h1 := hc j v hv
  obtain ⟨x, _, hx⟩ := List.mem_map.1 (List.mem_of_getElem? hv)
  rw [cell_setRow_other w g cs _ (fun e' => hn (ad.add j) e' x (by rw [h1, hx]))]
  exact h1
theorem IsB.setRow {w : World} {v : Value} {l : List UInt8} (h : IsB w v l) (g : Nat) (cs : Array Value) (hn : ∀ q : Addr, q.block = g → ∀ x, w.cell? q ≠ some (byteV x)) : IsB (w.setRow g cs) v l := by
  obtain ⟨A, c, h1, h2, h3, h4⟩ := h
  exact ⟨A, c, h1, h2, h3, h4.setRow g cs hn⟩
theorem below_setRow {B : Nat} {a w : World} (h : Below B a w) {g : Nat} (hg : B ≤ g) (cs : Array Value) : Below B a (w.setRow g cs) :=
  h.trans ⟨rfl, rfl, rfl, by simp, fun k hk => setRow_other w g k cs (by omega)⟩
theorem results_cell_tmp {P : Program} {fn : Func} {p q : Tmp} {ty : TypeId} (h : fn.results = #[.cell p ty, .tmp q]) (tmps : Array Value) (w : World) (a : Addr) (v u : Value)
    (hp : tmps.getD p undef = .pointer (some a)) (hl : (loadVar ty a).run P w = .ok v w) (hq : tmps.getD q undef = u) : (results fn tmps).run P w = .ok (.tuple #[v, u]) w := by
  have hp' : tmps[p]?.getD undef = .pointer (some a) := by simpa using hp
  have hq' : tmps[q]?.getD undef = u := by simpa using hq
  simp [results, h, hp', hq', asAddr, hl]
theorem results_cell1 {P : Program} {fn : Func} {p : Tmp} {ty : TypeId} (h : fn.results = #[.cell p ty]) (tmps : Array Value) (w : World) (a : Addr) (v : Value)
    (hp : tmps.getD p undef = .pointer (some a)) (hl : (loadVar ty a).run P w = .ok v w) : (results fn tmps).run P w = .ok v w := by
  have hp' : tmps[p]?.getD undef = .pointer (some a) := by simpa using hp
  simp [results, h, hp', asAddr, hl]
/-- Parts: slices of bytes, one after the other. -/
def IsParts (w : World) (vs : List Value) (ls : List (List UInt8)) : Prop := vs.length = ls.length ∧ ∀ j (h : j < vs.length) (h' : j < ls.length), IsB w vs[j] ls[j]
theorem IsParts.nil (w : World) : IsParts w [] [] := ⟨rfl, fun j h => absurd h (by simp)⟩
theorem IsParts.cons {w : World} {v : Value} {l : List UInt8} {vs : List Value} {ls : List (List UInt8)} (h : IsB w v l) (hs : IsParts w vs ls) : IsParts w (v :: vs) (l :: ls) := by
  refine ⟨by simp [hs.1], fun j h1 h2 => ?_⟩
  cases j with
  | zero => exact h
  | succ j => exact hs.2 j (by simpa using h1) (by simpa using h2)
theorem IsParts.gr {w w' : World} {vs : List Value} {ls : List (List UInt8)} (h : IsParts w vs ls) (hg : Gr w w') : IsParts w' vs ls := ⟨h.1, fun j h1 h2 => (h.2 j h1 h2).gr hg⟩
theorem IsParts.snoc {w : World} {v : Value} {l : List UInt8} {vs : List Value} {ls : List (List UInt8)} (hs : IsParts w vs ls) (h : IsB w v l) : IsParts w (vs ++ [v]) (ls ++ [l]) := by
  refine ⟨by simp [hs.1], fun j h1 h2 => ?_⟩
  have he := hs.1
  by_cases hj : j < vs.length
  · rw [List.getElem_append_left hj, List.getElem_append_left (by omega)]
    exact hs.2 j hj (by omega)
  · have : j = vs.length := by simp at h1; omega
    subst this
    simp [he, h]

def catL (ls : List (List UInt8)) (j : Nat) : List UInt8 := (ls.take j).flatten
theorem catL_zero (ls : List (List UInt8)) : catL ls 0 = [] := rfl
theorem catL_succ (ls : List (List UInt8)) (j : Nat) (h : j < ls.length) : catL ls (j + 1) = catL ls j ++ ls[j] := by
  unfold catL
  rw [List.take_succ_eq_append_getElem h, List.flatten_append, List.flatten_cons, List.flatten_nil, List.append_nil]
theorem catL_all (ls : List (List UInt8)) : catL ls ls.length = ls.flatten := by unfold catL; rw [List.take_length]
theorem catL_le (ls : List (List UInt8)) (j : Nat) : (catL ls j).length ≤ ls.flatten.length := by
  unfold catL
  conv => rhs; rw [← List.take_append_drop j ls]
  rw [List.flatten_append, List.length_append]
  omega
end Go.Proofs.YthkllbjfajfidaaGreat
