/- A region that draws its order, by facts: one step for each operation, in whatever world the earlier ones left, where the operations only add to memory. -/
import Derived.Orders
import Derived.RegionTactic
import Derived.Below
namespace Go.Proofs.YthkllbjfajfidaaGreat
open Go.RowKit

/-- Memory has only grown. -/
def Gr (w w' : World) : Prop := Below w.heap.size w w'
theorem Gr.refl (w : World) : Gr w w := Below.refl _ _
theorem Gr.trans {a b c : World} (h : Gr a b) (k : Gr b c) : Gr a c := Below.trans h (Below.mono k h.size)

theorem Gr.alloc (w : World) (o : Obj) : Gr w (w.alloc o) := Below.alloc (Below.refl _ w) (Nat.le_refl _) o
theorem Gr.drew (w : World) : Gr w w.drew := Below.drew (Below.refl _ w)
/-- The frame, the listed temporaries filled. -/
def fillL (ds : List Nat) (vals : Nat → Value) : Nat → List Value → List Value
  | _, [] => []
  | t, x :: l => (if ds.contains t = true then vals t else x) :: fillL ds vals (t + 1) l
def fillA (ds : List Nat) (vals : Nat → Value) (a : Act) : Act := ⟨(fillL ds vals 0 a.tmps.toList).toArray, a.defers⟩
def upd (vals : Nat → Value) (d : Nat) (v : Value) : Nat → Value := fun t => if t = d then v else vals t

theorem fillL_same (ds : List Nat) (f : Nat → Value) : ∀ (l : List Value) (k : Nat), (∀ i, i < l.length → f (k + i) = l.getD i undef) → fillL ds f k l = l
  | [], _, _ => rfl
  | x :: l, k, h => by
    have h0 := h 0 (by simp)
    simp only [fillL]
    rw [fillL_same ds f l (k + 1) (fun i hi => by
      have := h (i + 1) (by simpa using hi)
      rw [show k + 1 + i = k + (i + 1) by omega]
      simpa using this)]
    split
    · rw [show f k = x by simpa using h0]
    · rfl
theorem fillL_upd (ds : List Nat) (f : Nat → Value) (d : Nat) (v : Value) (hd : ds.contains d = true) : ∀ (l : List Value) (k : Nat), k ≤ d → (fillL ds f k l).set (d - k) v = fillL ds (upd f d v) k l
  | [], _, _ => by simp [fillL]
  | x :: l, k, h => by
    by_cases e : k = d
    · subst e
      simp only [fillL, Nat.sub_self, List.set_cons_zero, hd, if_true]
      have : ∀ (l : List Value) (j : Nat), k < j → fillL ds f j l = fillL ds (upd f k v) j l := by
        intro l
        induction l with
        | nil => intro j _; rfl
        | cons y l ih =>
          intro j hj
          simp only [fillL]
          rw [ih (j + 1) (by omega)]
          have : upd f k v j = f j := by simp [upd]; omega
          rw [this]
      rw [this l (k + 1) (by omega)]
      simp [upd]
    · have e1 : d - k = (d - (k + 1)) + 1 := by omega
      simp only [fillL]
      rw [e1, List.set_cons_succ, fillL_upd ds f d v hd l (k + 1) (by omega)]
      have : upd f d v k = f k := by simp [upd, e]
      rw [this]
theorem fillA_put (ds : List Nat) (f : Nat → Value) (a : Act) (d : Nat) (v : Value) (hd : ds.contains d = true) : (fillA ds f a).put (some d) v = fillA ds (upd f d v) a := by
  unfold fillA Act.put
  simp only [Act.mk.injEq, and_true]
  rw [← fillL_upd ds f d v hd a.tmps.toList 0 (Nat.zero_le _)]
  simp

def dstOf (ops : Array Oper) (i : Nat) : Option Tmp := (ops[i]?).bind (·.dst)
def keepV (d : Option Tmp) (v : Value) : Value := match d with | some _ => v | none => undef
def valOf (ops : Array Oper) (vals : Nat → Value) (i : Nat) : Value := match dstOf ops i with | some d => vals d | none => undef
/-- The first m operations: each waits for earlier ones alone, each writes a temporary of its own among the listed; every later one waits for all of these. -/
def okRegion (ops : Array Oper) (m : Nat) (ds : List Nat) : Bool :=
  (List.range m).all (fun i => (match ops[i]? with
    | some o => (o.after.all fun e => !Region.binds .any e || decide (e.on < i)) && (match o.dst with | some d => ds.contains d | none => true)
    | none => false) && (List.range m).all fun j => i == j || (match dstOf ops i, dstOf ops j with | some d, some e => d != e | _, _ => true)) &&
  (List.range ops.size).all fun i => decide (i < m) || (match ops[i]? with
    | some o => (List.range m).all fun j => o.after.any fun e => Region.binds .any e && e.on == j
    | none => false)
def firsts (n m : Nat) : Array Bool := ((List.range n).map fun i => decide (i < m)).toArray

/-- The operations that stand before operation i, some steps back. -/
def pres (ops : Array Oper) : Nat → Nat → List Nat
  | 0, _ => []
  | n + 1, i => match ops[i]? with
    | some o => o.after.toList.flatMap fun e => if Region.binds .any e = true then e.on :: pres ops n e.on else []
    | none => []
def knows (ops : Array Oper) (Fs : List (Value → World → Prop)) (vals : Nat → Value) (w : World) : List Nat → Prop
  | [] => True
  | j :: l => Fs.getD j (fun _ _ => True) (valOf ops vals j) w ∧ knows ops Fs vals w l

variable {P : Program} {ops : Array Oper} {Q : Exit → Act → World → Prop}

/-- One operation's step: in whatever world from w0 on, whatever the earlier ones gave, it gives a value that meets its fact. -/
def stepOf (P : Program) (ops : Array Oper) (Q : Exit → Act → World → Prop) (Fs : List (Value → World → Prop)) (n : Nat) (ds : List Nat) (a0 : Act) (w0 : World) (i : Nat) : Prop :=
  match ops[i]? with
  | some o => ∀ (vals : Nat → Value) (w : World), Gr w0 w → knows ops Fs vals w (pres ops n i) → ∀ K : Act → World → Prop,
      (∀ v w', Gr w w' → Fs.getD i (fun _ _ => True) (keepV o.dst v) w' → K ((fillA ds vals a0).put o.dst v) w') →
      if Region.wanted o (yielded ops (fillA ds vals a0).tmps) = true then Oper.wp P o (fillA ds vals a0) w K Q else K ((fillA ds vals a0).put o.dst undef) w
  | none => True
def stepsOf (P : Program) (ops : Array Oper) (Q : Exit → Act → World → Prop) (Fs : List (Value → World → Prop)) (n : Nat) (ds : List Nat) (a0 : Act) (w0 : World) : List Nat → Prop
  | [] => True
  | i :: l => stepOf P ops Q Fs n ds a0 w0 i ∧ stepsOf P ops Q Fs n ds a0 w0 l
theorem stepsOf_mem {Fs : List (Value → World → Prop)} {n : Nat} {ds : List Nat} {a0 : Act} {w0 : World} : ∀ {l : List Nat}, stepsOf P ops Q Fs n ds a0 w0 l → ∀ i ∈ l, stepOf P ops Q Fs n ds a0 w0 i
  | _ :: _, h, i, hi => by
    rcases List.mem_cons.1 hi with rfl | hi
    · exact h.1
    · exact stepsOf_mem h.2 i hi
def lasting (Fs : List (Value → World → Prop)) : Prop := ∀ F ∈ Fs, ∀ v w w', F v w → Gr w w' → F v w'
theorem lasting.nil : lasting [] := fun _ h => by cases h
theorem lasting.cons {F : Value → World → Prop} {Fs : List (Value → World → Prop)} (h : ∀ v w w', F v w → Gr w w' → F v w') (hs : lasting Fs) : lasting (F :: Fs) := fun G hG => by
  rcases List.mem_cons.1 hG with rfl | hG
  · exact h
  · exact hs G hG
theorem lasting.at {Fs : List (Value → World → Prop)} (h : lasting Fs) (i : Nat) {v : Value} {w w' : World} (hv : Fs.getD i (fun _ _ => True) v w) (hw : Gr w w') : Fs.getD i (fun _ _ => True) v w' := by
  rcases Nat.lt_or_ge i Fs.length with hi | hi
  · rw [List.getD_eq_getElem?_getD, List.getElem?_eq_getElem hi] at hv ⊢
    exact h _ (List.getElem_mem hi) v w w' hv hw
  · rw [List.getD_eq_getElem?_getD, List.getElem?_eq_none hi]
    trivial

def unl (ops : Array Oper) (listed : Array Bool) : Nat := (List.range ops.size).countP fun j => !listed.getD j true
def closedL (ops : Array Oper) (listed : Array Bool) : Prop := ∀ j o, ops[j]? = some o → listed.getD j true = true → ∀ e ∈ o.after, Region.binds .any e = true → listed.getD e.on false = true

theorem knows_of {Fs : List (Value → World → Prop)} {vals : Nat → Value} {w : World} : ∀ l : List Nat, (∀ j ∈ l, Fs.getD j (fun _ _ => True) (valOf ops vals j) w) → knows ops Fs vals w l
  | [], _ => trivial
  | j :: l, h => ⟨h j (by simp), knows_of l fun k hk => h k (List.mem_cons_of_mem _ hk)⟩
theorem pres_listed {listed : Array Bool} (hc : closedL ops listed) : ∀ (n i : Nat), (∀ o, ops[i]? = some o → ∀ e ∈ o.after, Region.binds .any e = true → listed.getD e.on false = true) → ∀ j ∈ pres ops n i, listed.getD j false = true
  | 0, _, _, j, hj => by simp [pres] at hj
  | n + 1, i, h, j, hj => by
    simp only [pres] at hj
    cases ho : ops[i]? with
    | none => simp [ho] at hj
    | some o =>
      simp only [ho, List.mem_flatMap] at hj
      obtain ⟨e, he, hj⟩ := hj
      have he' : e ∈ o.after := by simpa using he
      by_cases hb : Region.binds .any e = true
      · rw [if_pos hb] at hj
        have h1 := h o ho e he' hb
        rcases List.mem_cons.1 hj with rfl | hj
        · exact h1
        · refine pres_listed hc n e.on (fun o' ho' e' he'' hb' => hc e.on o' ho' ?_ e' he'' hb') j hj
          rcases Nat.lt_or_ge e.on listed.size with hl | hl
          · simp [hl] at h1 ⊢; exact h1
          · simp [Array.getElem?_eq_none hl] at h1
      · rw [if_neg hb] at hj
        cases hj

theorem countP_set {ops : Array Oper} {listed : Array Bool} {i : Nat} (hi : i < ops.size) (h : listed.getD i true = false) : unl ops (listed.setIfInBounds i true) + 1 = unl ops listed := by
  unfold unl
  have hl : i < listed.size := by
    rcases Nat.lt_or_ge i listed.size with hl | hl
    · exact hl
    · simp [Array.getElem?_eq_none hl] at h
  have e1 : (listed.setIfInBounds i true).getD i true = true := by simp [hl]
  have key : ∀ l : List Nat, l.Nodup → (i ∈ l → l.countP (fun j => !(listed.setIfInBounds i true).getD j true) + 1 = l.countP (fun j => !listed.getD j true)) ∧ (i ∉ l → l.countP (fun j => !(listed.setIfInBounds i true).getD j true) = l.countP (fun j => !listed.getD j true)) := by
    intro l
    induction l with
    | nil => intro _; exact ⟨fun h => by (cases h), fun _ => rfl⟩
    | cons x l ih =>
      intro hn
      have ih' := ih (List.nodup_cons.1 hn).2
      rw [List.countP_cons, List.countP_cons]
      by_cases e : i = x
      · subst e
        refine ⟨fun _ => ?_, fun h' => absurd (by simp) h'⟩
        rw [e1, h, ih'.2 (List.nodup_cons.1 hn).1]
        simp
      · rw [getD_set_ne true e]
        refine ⟨fun hm => ?_, fun hm => ?_⟩
        · have := ih'.1 ((List.mem_cons.1 hm).resolve_left e)
          omega
        · rw [ih'.2 (fun h' => hm (List.mem_cons_of_mem _ h'))]
  exact (key _ List.nodup_range).1 (by simpa using hi)
theorem unl_firsts (ops : Array Oper) (m : Nat) : unl ops (firsts ops.size m) = ops.size - m := by
  unfold unl
  have e : ∀ j ∈ List.range ops.size, (!(firsts ops.size m).getD j true) = !decide (j < m) := by
    intro j hj
    have hj' : j < ops.size := by simpa using hj
    simp [firsts, hj']
  rw [List.countP_congr (q := fun j => !decide (j < m)) (fun j hj => by rw [e j hj])]
  have key : ∀ n, (List.range n).countP (fun j => !decide (j < m)) = n - m := by
    intro n
    induction n with
    | zero => simp
    | succ n ih =>
      rw [List.range_succ, List.countP_append, ih]
      by_cases h : n < m
      · simp [h]; omega
      · simp [h]; omega
  exact key _

theorem wpAny_facts {Fs : List (Value → World → Prop)} {n m : Nat} {ds : List Nat} {a0 : Act} {w0 : World} (hm : m ≤ ops.size) (hok : okRegion ops m ds = true) (hlast : lasting Fs)
    (hstep : stepsOf P ops Q Fs n ds a0 w0 (List.range m))
    (hend : ∀ vals w, Gr w0 w → knows ops Fs vals w (List.range m) → wpAny P .any ops Q (ops.size - m) (firsts ops.size m) (fillA ds vals a0) w) :
    ∀ (fuel : Nat) (listed : Array Bool) (vals : Nat → Value) (w : World), unl ops listed = fuel → closedL ops listed → listed.size = ops.size → (∀ j, listed.getD j false = true → j < m) → Gr w0 w →
      (∀ j, listed.getD j false = true → j < ops.size → Fs.getD j (fun _ _ => True) (valOf ops vals j) w) → wpAny P .any ops Q fuel listed (fillA ds vals a0) w := by
  unfold okRegion at hok
  rw [Bool.and_eq_true] at hok
  have hall := fun (i : Nat) (hi : i < m) => List.all_eq_true.1 hok.1 i (by simpa using hi)
  have hlate := fun (i : Nat) (hi : i < ops.size) => List.all_eq_true.1 hok.2 i (by simpa using hi)
  have hgd : ∀ (listed : Array Bool), listed.size = ops.size → ∀ j, j < ops.size → (¬ listed.getD j true = false → listed.getD j false = true) := by
    intro listed hsz j hj h
    have hl : j < listed.size := by omega
    simp [hl] at h ⊢
    exact h
  -- as long as one of the first is left, one of them may come up
  have hsome : ∀ (listed : Array Bool), listed.size = ops.size → Region.ready .any ops listed = [] → ∀ j, j < m → listed.getD j false = true := by
    intro listed hsz hr j
    induction j using Nat.strongRecOn with
    | ind j ih =>
      intro hj
      have hjs : j < ops.size := by omega
      by_cases h : listed.getD j true = false
      · exfalso
        have ho : ops[j]? = some ops[j] := Array.getElem?_eq_getElem hjs
        have : j ∈ Region.ready .any ops listed := by
          rw [mem_ready]
          refine ⟨h, _, ho, fun e he hb => ?_⟩
          have h1 := hall j hj
          rw [ho] at h1
          simp only [Bool.and_eq_true] at h1
          have h2 := Array.all_eq_true'.1 h1.1.1 e he
          have h3 : e.on < j := by simpa [hb] using h2
          exact ih e.on h3 (by omega)
        rw [hr] at this
        cases this
      · exact hgd listed hsz j hjs h
  have hfin : ∀ (fuel : Nat) (listed : Array Bool) (vals : Nat → Value) (w : World), unl ops listed = fuel → listed.size = ops.size → (∀ j, listed.getD j false = true → j < m) → (∀ j, j < m → listed.getD j false = true) → Gr w0 w →
      (∀ j, listed.getD j false = true → j < ops.size → Fs.getD j (fun _ _ => True) (valOf ops vals j) w) → wpAny P .any ops Q fuel listed (fillA ds vals a0) w := by
    intro fuel listed vals w hu hsz hlt hge hg hf
    have hl : listed = firsts ops.size m := by
      apply Array.ext
      · simp [firsts, hsz]
      · intro j h1 h2
        have hjs : j < ops.size := by omega
        by_cases hj : j < m
        · have := hge j hj
          simp [h1] at this
          simp [firsts, hj, this]
        · have : ¬ listed.getD j false = true := fun h => hj (hlt j h)
          simp [h1] at this
          simp [firsts, hj, this]
    subst hl
    rw [unl_firsts ops m] at hu
    subst hu
    refine hend vals w hg (knows_of _ fun j hj => ?_)
    have hjm : j < m := by simpa using hj
    exact hf j (hge j hjm) (by omega)
  intro fuel
  induction fuel with
  | zero =>
    intro listed vals w hu hc hsz hlt hg hf
    have hr : Region.ready .any ops listed = [] := by
      cases hr : Region.ready .any ops listed with
      | nil => rfl
      | cons i l =>
        have hi : i ∈ Region.ready .any ops listed := by rw [hr]; simp
        obtain ⟨h0, o, ho, _⟩ := mem_ready.1 hi
        have := countP_set (Array.getElem?_eq_some_iff.1 ho).1 h0
        omega
    exact hfin 0 listed vals w hu hsz hlt (hsome listed hsz hr) hg hf
  | succ fuel ih =>
    intro listed vals w hu hc hsz hlt hg hf
    by_cases hdone : ∀ j, j < m → listed.getD j false = true
    · exact hfin _ listed vals w hu hsz hlt hdone hg hf
    refine ⟨fun hr => absurd (hsome listed hsz hr) hdone, fun i hi => ?_⟩
    obtain ⟨h0, o, ho, hpre⟩ := mem_ready.1 hi
    have hlti : i < ops.size := (Array.getElem?_eq_some_iff.1 ho).1
    have him : i < m := by
      rcases Nat.lt_or_ge i m with h | h
      · exact h
      · exfalso
        refine hdone fun j hj => ?_
        have h1 := hlate i hlti
        have hn : decide (i < m) = false := by simpa using h
        rw [hn, ho, Bool.false_or] at h1
        have h2 := List.all_eq_true.1 h1 j (by simpa using hj)
        obtain ⟨e, he, h3⟩ := Array.any_eq_true'.1 h2
        simp only [Bool.and_eq_true, beq_iff_eq] at h3
        have := hpre e he h3.1
        rw [h3.2] at this
        exact this
    have hst := stepsOf_mem hstep i (by simpa using him)
    unfold stepOf at hst
    rw [ho] at hst
    have hk : knows ops Fs vals w (pres ops n i) := knows_of _ fun j hj => by
      have hl := pres_listed hc n i (fun o' ho' e he hb => by rw [ho] at ho'; cases ho'; exact hpre e he hb) j hj
      by_cases hjs : j < ops.size
      · exact hf j hl hjs
      · have : ¬ j < listed.size := by omega
        simp [this] at hl
    refine wpOp_step ho fun K hK => ?_
    refine hst vals w hg hk K fun v w' hgr hF => hK _ _ ?_
    -- the next state
    have hclosed : closedL ops (listed.setIfInBounds i true) := by
      intro j oj hoj hj e he hb
      by_cases hij : i = j
      · subst hij
        rw [ho] at hoj
        cases hoj
        exact getD_set_true (hpre e he hb)
      · rw [getD_set_ne true hij] at hj
        exact getD_set_true (hc j oj hoj hj e he hb)
    have hlt' : ∀ j, (listed.setIfInBounds i true).getD j false = true → j < m := by
      intro j hj
      by_cases hij : i = j
      · subst hij; exact him
      · rw [getD_set_ne false hij] at hj
        exact hlt j hj
    have hval : ∀ d, o.dst = some d → ∀ j, j < m → j ≠ i → valOf ops (upd vals d v) j = valOf ops vals j := by
      intro d hd j hj hne
      have h1 := hall i him
      rw [ho] at h1
      simp only [Bool.and_eq_true] at h1
      have h2 := List.all_eq_true.1 h1.2 j (by simpa using hj)
      have hdi : dstOf ops i = some d := by unfold dstOf; rw [ho]; exact hd
      unfold valOf
      cases hdj : dstOf ops j with
      | none => rfl
      | some e =>
        rw [hdi, hdj] at h2
        have hne' : (i == j) = false := by simpa using Ne.symm hne
        rw [hne'] at h2
        have : d ≠ e := by simpa using h2
        simp only [upd]
        rw [if_neg (Ne.symm this)]
    have hu' : unl ops (listed.setIfInBounds i true) = fuel := by
      have := countP_set (listed := listed) hlti h0
      omega
    have hfact : ∀ vals', (∀ j, j < m → j ≠ i → valOf ops vals' j = valOf ops vals j) → Fs.getD i (fun _ _ => True) (valOf ops vals' i) w' →
        ∀ j, (listed.setIfInBounds i true).getD j false = true → j < ops.size → Fs.getD j (fun _ _ => True) (valOf ops vals' j) w' := by
      intro vals' hv hi' j hl hjs
      by_cases hij : i = j
      · subst hij; exact hi'
      · have hjm := hlt' j hl
        rw [getD_set_ne false hij] at hl
        rw [hv j hjm (Ne.symm hij)]
        exact hlast.at j (hf j hl hjs) hgr
    cases hd : o.dst with
    | none =>
      refine ih _ vals w' hu' hclosed (by simpa using hsz) hlt' (hg.trans hgr) (hfact vals (fun _ _ _ => rfl) ?_)
      have : valOf ops vals i = undef := by unfold valOf dstOf; rw [ho]; simp [hd]
      rw [this]
      rw [hd] at hF
      exact hF
    | some d =>
      have h1 := hall i him
      rw [ho] at h1
      simp only [Bool.and_eq_true, hd] at h1
      rw [fillA_put ds vals a0 d v h1.1.2]
      refine ih _ (upd vals d v) w' hu' hclosed (by simpa using hsz) hlt' (hg.trans hgr) (hfact _ (hval d hd) ?_)
      have : valOf ops (upd vals d v) i = v := by unfold valOf dstOf; rw [ho]; simp [hd, upd]
      rw [this]
      rw [hd] at hF
      exact hF

/-- A region that draws its order: one step for each of the first m operations; the others follow. -/
theorem wp_region_facts {id : Nat} {a : Act} {w : World} (hmx : P.follows .mixedOrders = true) (m : Nat) (hm : m ≤ ops.size) (Fs : List (Value → World → Prop)) (n : Nat) (ds : List Nat) (hok : okRegion ops m ds = true) (hlast : lasting Fs)
    (hstep : stepsOf P ops Q Fs n ds a w (List.range m))
    (hend : ∀ vals w', Gr w w' → knows ops Fs vals w' (List.range m) → wpAny P .any ops Q (ops.size - m) (firsts ops.size m) (fillA ds vals a) w') : (Code.region id ops true).wp P Q a w := by
  refine wp_region_any hmx ?_
  have hsame : fillA ds (fun t => a.tmps.toList.getD t undef) a = a := by
    unfold fillA
    rw [fillL_same ds _ a.tmps.toList 0 (fun i _ => by simp)]
  have hun : unl ops (Array.replicate ops.size false) = ops.size := by
    unfold unl
    have : (List.range ops.size).countP (fun j => !(Array.replicate ops.size false).getD j true) = (List.range ops.size).length := by
      rw [List.countP_eq_length]
      intro j hj
      have : j < ops.size := by simpa using hj
      simp [this]
    rw [this, List.length_range]
  have h := wpAny_facts (P := P) (Q := Q) (Fs := Fs) (n := n) (m := m) (ds := ds) (a0 := a) (w0 := w) hm hok hlast hstep hend ops.size (Array.replicate ops.size false) (fun t => a.tmps.toList.getD t undef) w.drew
    hun
    (fun j o ho hj => by
      have hlt : j < ops.size := (Array.getElem?_eq_some_iff.1 ho).1
      simp [hlt] at hj)
    (by simp)
    (fun j hj => by
      exfalso
      rcases Nat.lt_or_ge j ops.size with h | h
      · simp [h] at hj
      · simp [h] at hj)
    (Below.drew (Below.refl _ _))
    (fun j hj hlt => by simp [hlt] at hj)
  rw [hsame] at h
  exact h

/-- What is known of operation j's value. -/
def fact (ops : Array Oper) (Fs : List (Value → World → Prop)) (vals : Nat → Value) (w : World) (j : Nat) : Prop := Fs.getD j (fun _ _ => True) (valOf ops vals j) w
theorem knows_at {Fs : List (Value → World → Prop)} {vals : Nat → Value} {w : World} : ∀ {l : List Nat}, knows ops Fs vals w l → ∀ j ∈ l, fact ops Fs vals w j
  | _ :: _, h, j, hj => by
    rcases List.mem_cons.1 hj with rfl | hj
    · exact h.1
    · exact knows_at h.2 j hj
theorem steps_nil {Fs : List (Value → World → Prop)} {n : Nat} {ds : List Nat} {a0 : Act} {w0 : World} : stepsOf P ops Q Fs n ds a0 w0 [] := trivial
theorem steps_cons {Fs : List (Value → World → Prop)} {n : Nat} {ds : List Nat} {a0 : Act} {w0 : World} {i : Nat} {l : List Nat} {o : Oper} (ho : ops[i]? = some o)
    (h : ∀ (vals : Nat → Value) (w : World), Gr w0 w → (∀ j, (pres ops n i).contains j = true → fact ops Fs vals w j) → ∀ K : Act → World → Prop,
      (∀ v w', Gr w w' → Fs.getD i (fun _ _ => True) (keepV o.dst v) w' → K ((fillA ds vals a0).put o.dst v) w') →
      if Region.wanted o (yielded ops (fillA ds vals a0).tmps) = true then Oper.wp P o (fillA ds vals a0) w K Q else K ((fillA ds vals a0).put o.dst undef) w)
    (hs : stepsOf P ops Q Fs n ds a0 w0 l) : stepsOf P ops Q Fs n ds a0 w0 (i :: l) := by
  refine ⟨?_, hs⟩
  unfold stepOf
  rw [ho]
  intro vals w hg hk
  exact h vals w hg fun j hj => knows_at hk j (by simpa using hj)
/-- The form that is used: the operations' numbers written out. -/
theorem wp_region_by {id : Nat} {a : Act} {w : World} (hm : P.follows .mixedOrders = true) (is : List Nat) (hi : List.range ops.size = is) (Fs : List (Value → World → Prop)) (n : Nat) (ds : List Nat) (hok : okRegion ops ops.size ds = true) (hlast : lasting Fs)
    (hstep : stepsOf P ops Q Fs n ds a w is) (hr : Region.ready .any ops (firsts ops.size ops.size) = [])
    (hend : ∀ vals w', Gr w w' → (∀ j, is.contains j = true → fact ops Fs vals w' j) → Q .normal (fillA ds vals a) w') : (Code.region id ops true).wp P Q a w :=
  wp_region_facts hm ops.size (Nat.le_refl _) Fs n ds hok hlast (hi ▸ hstep) fun vals w' hg hk => wpAny_done hr (hend vals w' hg fun j hj => knows_at hk j (by rw [hi]; simpa using hj)) _
/-- The same for the first m operations; the others follow in some order. -/
theorem wp_region_upto {id : Nat} {a : Act} {w : World} (hmx : P.follows .mixedOrders = true) (m : Nat) (hm : m ≤ ops.size) (is : List Nat) (hi : List.range m = is) (Fs : List (Value → World → Prop)) (n : Nat) (ds : List Nat) (hok : okRegion ops m ds = true) (hlast : lasting Fs)
    (hstep : stepsOf P ops Q Fs n ds a w is)
    (hend : ∀ vals w', Gr w w' → (∀ j, is.contains j = true → fact ops Fs vals w' j) → wpAny P .any ops Q (ops.size - m) (firsts ops.size m) (fillA ds vals a) w') : (Code.region id ops true).wp P Q a w :=
  wp_region_facts hmx m hm Fs n ds hok hlast (hi ▸ hstep) fun vals w' hg hk => hend vals w' hg fun j hj => knows_at hk j (by rw [hi]; simpa using hj)
end Go.Proofs.YthkllbjfajfidaaGreat
