/- Plain laws on hexadecimal digits: what the program's and the reference's Hex and Bytes compute, with no program in sight. -/
namespace Go.Proofs.YtkfogknohmkbpaaGreatDoor.Hex

/-- The digit of a number below 16. -/
def dg (n : Nat) : UInt8 := if n < 10 then UInt8.ofNat (48 + n) else UInt8.ofNat (87 + n)
/-- The value of a digit, or 16. -/
def val (c : UInt8) : Nat := if 48 ≤ c.toNat ∧ c.toNat ≤ 57 then c.toNat - 48 else if 97 ≤ c.toNat ∧ c.toNat ≤ 102 then c.toNat - 87 else 16
/-- Two digits for each byte. -/
def hex : List UInt8 → List UInt8
  | [] => []
  | b :: l => dg (b.toNat / 16) :: dg (b.toNat % 16) :: hex l
/-- The bytes of digits. -/
def un : List UInt8 → Option (List UInt8)
  | [] => some []
  | [_] => none
  | a :: b :: l => if val a < 16 ∧ val b < 16 then (un l).map (UInt8.ofNat (16 * val a + val b) :: ·) else none
/-- What Bytes returns. -/
def out (s : List UInt8) : List UInt8 := (un s).getD []
def ok (s : List UInt8) : Bool := !s.isEmpty && (un s).isSome

theorem val_dg (n : Nat) (h : n < 16) : val (dg n) = n := by
  have : ∀ n, n < 16 → val (dg n) = n := by decide
  exact this n h
theorem hex_length (l : List UInt8) : (hex l).length = 2 * l.length := by
  induction l with
  | nil => rfl
  | cons b l ih => simp [hex, ih]; omega
theorem hex_append (a b : List UInt8) : hex (a ++ b) = hex a ++ hex b := by
  induction a with
  | nil => rfl
  | cons x a ih => simp [hex, ih]
theorem un_hex (l : List UInt8) : un (hex l) = some l := by
  induction l with
  | nil => rfl
  | cons b l ih =>
    have hb := b.toNat_lt
    have h1 : val (dg (b.toNat / 16)) = b.toNat / 16 := val_dg _ (by omega)
    have h2 : val (dg (b.toNat % 16)) = b.toNat % 16 := val_dg _ (by omega)
    simp only [hex, un]
    rw [h1, h2, if_pos ⟨by omega, by omega⟩, ih]
    have : 16 * (b.toNat / 16) + b.toNat % 16 = b.toNat := by omega
    simp [this]
/-- The value of the j-th byte when pos digits have been read. -/
def cv (l : List UInt8) (pos j : Nat) : Nat :=
  if 2 * j + 1 < pos then 16 * val (l.getD (2 * j) 0) + val (l.getD (2 * j + 1) 0) else if 2 * j < pos then val (l.getD (2 * j) 0) else 0
theorem val_le (c : UInt8) : val c ≤ 16 := by
  unfold val
  split
  · omega
  · split <;> omega
theorem un_odd : ∀ l : List UInt8, l.length % 2 = 1 → un l = none
  | [], h => by simp at h
  | [_], _ => rfl
  | a :: b :: l, h => by
    have ih := un_odd l (by simp at h; omega)
    simp only [un, ih]
    split <;> rfl
theorem un_bad : ∀ (l : List UInt8) (j : Nat), j < l.length → ¬ val (l.getD j 0) < 16 → un l = none
  | [], j, h, _ => by simp at h
  | [_], _, _, _ => rfl
  | a :: b :: l, 0, _, h => by
    simp at h
    simp only [un]
    rw [if_neg (by omega)]
  | a :: b :: l, 1, _, h => by
    simp at h
    simp only [un]
    rw [if_neg (by omega)]
  | a :: b :: l, j + 2, hj, h => by
    have ih := un_bad l j (by simp at hj; omega) (by simpa using h)
    simp only [un, ih]
    split <;> rfl
theorem un_good : ∀ (l : List UInt8), l.length % 2 = 0 → (∀ j, j < l.length → val (l.getD j 0) < 16) → un l = some ((List.range (l.length / 2)).map fun j => UInt8.ofNat (cv l l.length j))
  | [], _, _ => rfl
  | [_], h, _ => by simp at h
  | a :: b :: l, h, hv => by
    have ih := un_good l (by simp at h; omega) (fun j hj => by simpa using hv (j + 2) (by simp; omega))
    have ha := hv 0 (by simp)
    have hb := hv 1 (by simp)
    simp at ha hb
    have e : (a :: b :: l).length / 2 = l.length / 2 + 1 := by simp; omega
    rw [e, List.range_succ_eq_map]
    simp only [un, ih]
    rw [if_pos ⟨ha, hb⟩]
    simp only [Option.map_some, List.map_cons, List.map_map]
    congr 2
    apply List.map_congr_left
    intro j hj
    simp only [List.mem_range] at hj
    simp only [Function.comp]
    congr 1
    unfold cv
    simp only [List.length_cons]
    have e1 : 2 * (j + 1) = 2 * j + 1 + 1 := by omega
    have e2 : 2 * (j + 1) + 1 = 2 * j + 1 + 1 + 1 := by omega
    rw [e1]
    simp only [List.getD_cons_succ]
    rw [if_pos (by omega), if_pos (by omega)]
theorem out_hex (l : List UInt8) : out (hex l) = l := by simp [out, un_hex]
theorem ok_hex (l : List UInt8) : ok (hex l) = decide (0 < l.length) := by
  cases l with
  | nil => rfl
  | cons b l => have h := un_hex (b :: l); simp only [hex] at h; simp [ok, hex, h]
end Go.Proofs.YtkfogknohmkbpaaGreatDoor.Hex
