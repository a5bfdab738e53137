/- A region that draws its order, by what each operation leaves: one goal an operation, in whatever order they come. -/
import Derived.Test.YtcmgfmpmapnckaaBase
import Derived.Orders
namespace Go.Proofs.Ytcmgfmpmapnckaa
open Go.RowKit
set_option linter.unusedVariables false
set_option linter.unusedSimpArgs false

/-- Of each operation: the slot that it writes, and the operations that must stand ahead of it. -/
def tabOf (ops : Array Oper) : List (Option Tmp × List Nat) :=
  ops.toList.map fun o => (o.dst, (o.after.toList.filter (Region.binds .any)).map (·.on))

def tDst (tab : List (Option Tmp × List Nat)) (i : Nat) : Option Tmp := (tab[i]?).bind (·.1)
def tPre (tab : List (Option Tmp × List Nat)) (i : Nat) : List Nat := ((tab[i]?).map (·.2)).getD []

/-- What must be so of a region's table: what stands ahead has a lesser number, no slot is written twice, slots lie in the frame; the operations that turn the state stand in one row. -/
def tabOk (tab : List (Option Tmp × List Nat)) (sts : List Nat) (size : Nat) : Bool :=
  ((List.range tab.length).all fun i => (tPre tab i).all (· < i)) &&
  ((List.range tab.length).all fun i => (List.range tab.length).all fun j => i == j || tDst tab i != tDst tab j || tDst tab i == none) &&
  ((List.range tab.length).all fun i => match tDst tab i with | some d => d < size | none => true) &&
  ((List.range sts.length).all fun m => sts.getD m tab.length < tab.length && (m == 0 || (tPre tab (sts.getD m 0)).contains (sts.getD (m - 1) tab.length))) &&
  ((List.range sts.length).all fun m => (List.range sts.length).all fun m' => m == m' || sts.getD m 0 != sts.getD m' 0)

/-- The frame behind a region: each slot that is written holds its operation's value. -/
def putL (vs : Nat → Value) : List (Option Tmp × List Nat) → Nat → Act → Act
  | [], _, a => a
  | x :: t, i, a => putL vs t (i + 1) (a.put x.1 (vs i))

section
variable {P : Program} {Q : Exit → Act → World → Prop} {ops : Array Oper} {tab : List (Option Tmp × List Nat)} {sts : List Nat} {a0 : Act} {w0 : World}
  {R : World → World → Prop} {H : Nat → Value → World → Prop} {St : Nat → World → Prop}

/-- What holds while the operations in 'listed' have run. -/
structure RInv (tab : List (Option Tmp × List Nat)) (sts : List Nat) (a0 : Act) (w0 : World) (R : World → World → Prop) (H : Nat → Value → World → Prop) (St : Nat → World → Prop)
    (listed : Array Bool) (a : Act) (w : World) (vs : Nat → Value) (k : Nat) : Prop where
  size : listed.size = tab.length
  closed : ∀ i, listed.getD i false = true → ∀ j ∈ tPre tab i, listed.getD j false = true
  rel : R w0 w
  facts : ∀ i, listed.getD i false = true → H i (vs i) w
  defers : a.defers = a0.defers
  tsize : a.tmps.size = a0.tmps.size
  slot : ∀ i d, listed.getD i false = true → tDst tab i = some d → a.tmps.getD d undef = vs i
  old : ∀ t, (∀ i, listed.getD i false = true → tDst tab i ≠ some t) → a.tmps.getD t undef = a0.tmps.getD t undef
  st : St k w
  phase : ∀ m, m < sts.length → (listed.getD (sts.getD m tab.length) false = true ↔ m < k)
  klen : k ≤ sts.length

theorem getD_setIf (l : Array Bool) (i j : Nat) : (l.setIfInBounds i true).getD j false = true ↔ (l.getD j false = true ∨ (j = i ∧ i < l.size)) := by
  simp only [Array.getD_eq_getD_getElem?, Array.getElem?_setIfInBounds]
  by_cases h : i = j
  · subst h
    by_cases hi : i < l.size <;> simp [hi]
  · simp [h, show ¬ j = i from fun e => h e.symm]

theorem tmps_put_self (a : Act) (d : Tmp) (v : Value) (h : d < a.tmps.size) : (a.put (some d) v).tmps.getD d undef = v := by
  simp [Act.put, Array.getD_eq_getD_getElem?, Array.getElem?_setIfInBounds, h]
theorem tmps_put_ne (a : Act) (x : Option Tmp) (t : Tmp) (v : Value) (h : x ≠ some t) : (a.put x v).tmps.getD t undef = a.tmps.getD t undef := by
  cases x with
  | none => rfl
  | some d =>
    have hne : d ≠ t := fun e => h (by rw [e])
    simp [Act.put, Array.getD_eq_getD_getElem?, Array.getElem?_setIfInBounds, hne]
theorem tmps_put_size (a : Act) (x : Option Tmp) (v : Value) : (a.put x v).tmps.size = a.tmps.size := by
  cases x <;> simp [Act.put]
theorem put_defers (a : Act) (x : Option Tmp) (v : Value) : (a.put x v).defers = a.defers := by
  cases x <;> rfl

/-- What is owed for an operation: from each frame and world in which it may come up. -/
def Owed (P : Program) (ops : Array Oper) (Q : Exit → Act → World → Prop) (tab : List (Option Tmp × List Nat)) (sts : List Nat) (a0 : Act) (w0 : World)
    (R : World → World → Prop) (H : Nat → Value → World → Prop) (St : Nat → World → Prop) (i : Nat) : Prop :=
  ∀ (a : Act) (w : World) (vs : Nat → Value) (k : Nat), R w0 w →
    (∀ j ∈ tPre tab i, H j (vs j) w ∧ ∀ d, tDst tab j = some d → a.tmps.getD d undef = vs j) →
    (∀ t, (∀ j, j < tab.length → tDst tab j = some t → j = i ∨ i ∈ tPre tab j) → a.tmps.getD t undef = a0.tmps.getD t undef) →
    St k w →
    (∀ m, m < sts.length → sts.getD m tab.length = i → k = m) →
    (∀ m, m < sts.length → sts.getD m tab.length ∈ tPre tab i → m < k) →
    (∀ m, m < sts.length → i ∈ tPre tab (sts.getD m tab.length) → k ≤ m) →
    wpOp P ops Q i (fun a' w' => ∃ v, a' = a.put (tDst tab i) v ∧ H i v w' ∧ R w w' ∧ St (if sts.contains i then k + 1 else k) w') a w

theorem tab_len (htab : tabOf ops = tab) : tab.length = ops.size := by rw [← htab]; simp [tabOf]

theorem ready_mem (htab : tabOf ops = tab) {listed : Array Bool} (hs : listed.size = tab.length) (i : Nat) :
    i ∈ Region.ready .any ops listed ↔ i < tab.length ∧ listed.getD i false = false ∧ ∀ j ∈ tPre tab i, listed.getD j false = true := by
  have hlen := tab_len htab
  unfold Region.ready
  rw [List.mem_filter, List.mem_range]
  by_cases hi : i < ops.size
  · have h1 : tab[i]? = some (ops[i].dst, (ops[i].after.toList.filter (Region.binds .any)).map (·.on)) := by
      rw [← htab]; simp [tabOf, hi]
    have h2 : tPre tab i = (ops[i].after.toList.filter (Region.binds .any)).map (·.on) := by simp [tPre, h1]
    have h3 : listed.getD i true = listed.getD i false := by simp [Array.getD_eq_getD_getElem?, hs, hlen, hi]
    rw [h2, h3, hlen]
    simp only [hi, true_and, Array.getElem?_eq_getElem hi, Option.map_some, Option.getD_some, Bool.and_eq_true, Bool.not_eq_true', Array.all_eq_true', Bool.or_eq_true, List.mem_map, List.mem_filter, Array.mem_toList_iff, forall_exists_index, and_imp]
    constructor
    · rintro ⟨ha, hb⟩
      refine ⟨ha, fun j e he hbnd hj => ?_⟩
      subst hj
      have := hb e he
      simpa [hbnd] using this
    · rintro ⟨ha, hb⟩
      refine ⟨ha, fun e he => ?_⟩
      by_cases hbnd : Region.binds .any e = true
      · exact .inr (hb e.on e he hbnd rfl)
      · exact .inl (by simpa using hbnd)
  · simp [hi, hlen]

theorem mem_range_all {n : Nat} {p : Nat → Bool} (h : (List.range n).all p = true) : ∀ i, i < n → p i = true := fun i hi => List.all_eq_true.1 h i (List.mem_range.2 hi)

theorem tDst_lt {tab : List (Option Tmp × List Nat)} {i : Nat} {d : Tmp} (h : tDst tab i = some d) : i < tab.length := by
  unfold tDst at h
  rcases Nat.lt_or_ge i tab.length with h1 | h1
  · exact h1
  · rw [List.getElem?_eq_none h1] at h; simp at h

theorem step_inv (htab : tabOf ops = tab) (hok : tabOk tab sts a0.tmps.size = true)
    (Rtrans : ∀ x y z, R x y → R y z → R x z) (Hst : ∀ i v w w', R w0 w → H i v w → R w w' → H i v w')
    (howed : ∀ i, i < tab.length → Owed P ops Q tab sts a0 w0 R H St i)
    {listed : Array Bool} {a : Act} {w : World} {vs : Nat → Value} {k : Nat} (hI : RInv tab sts a0 w0 R H St listed a w vs k)
    {i : Nat} (hi : i ∈ Region.ready .any ops listed) :
    wpOp P ops Q i (fun a' w' => ∃ vs k, RInv tab sts a0 w0 R H St (listed.setIfInBounds i true) a' w' vs k) a w := by
  simp only [tabOk, Bool.and_eq_true] at hok
  obtain ⟨⟨⟨⟨hlt, hdist⟩, hfit⟩, hchain⟩, hnd⟩ := hok
  rw [ready_mem htab hI.size] at hi
  obtain ⟨hi1, hi2, hi3⟩ := hi
  have hnl : ¬ listed.getD i false = true := by rw [hi2]; simp
  have o1 : ∀ j ∈ tPre tab i, H j (vs j) w ∧ ∀ d, tDst tab j = some d → a.tmps.getD d undef = vs j :=
    fun j hj => ⟨hI.facts j (hi3 j hj), fun d hd => hI.slot j d (hi3 j hj) hd⟩
  have o2 : ∀ t, (∀ j, j < tab.length → tDst tab j = some t → j = i ∨ i ∈ tPre tab j) → a.tmps.getD t undef = a0.tmps.getD t undef := fun t ht =>
    hI.old t fun j hj hd => by
      rcases ht j (tDst_lt hd) hd with e | e
      · exact hnl (e ▸ hj)
      · exact hnl (hI.closed j hj i e)
  have o3 : ∀ m, m < sts.length → sts.getD m tab.length = i → k = m := fun m hm hs => by
    have h1 : ¬ m < k := fun h => hnl (by have := (hI.phase m hm).2 h; rwa [hs] at this)
    by_cases h0 : m = 0
    · omega
    · have hc := mem_range_all hchain m hm
      simp only [Bool.and_eq_true, Bool.or_eq_true, beq_iff_eq, h0, false_or] at hc
      have hmem : sts.getD (m - 1) tab.length ∈ tPre tab i := by
        have := List.contains_iff_mem.1 hc.2
        have e : sts.getD m 0 = sts.getD m tab.length := by simp [hm]
        rwa [e, hs] at this
      have := (hI.phase (m - 1) (by omega)).1 (hi3 _ hmem)
      omega
  have o4 : ∀ m, m < sts.length → sts.getD m tab.length ∈ tPre tab i → m < k := fun m hm hp => (hI.phase m hm).1 (hi3 _ hp)
  have o5 : ∀ m, m < sts.length → i ∈ tPre tab (sts.getD m tab.length) → k ≤ m := fun m hm hp => by
    rcases Nat.lt_or_ge m k with h | h
    · exact absurd (hI.closed _ ((hI.phase m hm).2 h) i hp) hnl
    · exact h
  refine wpOp_mono ?_ (howed i hi1 a w vs k hI.rel o1 o2 hI.st o3 o4 o5)
  rintro a' w' ⟨v, rfl, hH, hR, hSt⟩
  have hset : ∀ j, (listed.setIfInBounds i true).getD j false = true ↔ (listed.getD j false = true ∨ j = i) := fun j => by
    rw [getD_setIf]
    constructor
    · rintro (h | ⟨h, _⟩)
      · exact .inl h
      · exact .inr h
    · rintro (h | h)
      · exact .inl h
      · exact .inr ⟨h, by rw [hI.size]; exact hi1⟩
  refine ⟨fun j => if j = i then v else vs j, if sts.contains i then k + 1 else k, ?_⟩
  refine { size := by simpa using hI.size, closed := ?_, rel := Rtrans _ _ _ hI.rel hR, facts := ?_, defers := ?_, tsize := ?_, slot := ?_, old := ?_, st := hSt, phase := ?_, klen := ?_ }
  · intro j hj l hl
    rw [hset] at hj ⊢
    rcases hj with hj | rfl
    · exact .inl (hI.closed j hj l hl)
    · exact .inl (hi3 l hl)
  · intro j hj
    rw [hset] at hj
    by_cases e : j = i
    · subst e; simpa using hH
    · rcases hj with hj | hj
      · simp only [e, if_false]; exact Hst j _ _ _ hI.rel (hI.facts j hj) hR
      · exact absurd hj e
  · rw [put_defers]; exact hI.defers
  · rw [tmps_put_size]; exact hI.tsize
  · intro j d hj hd
    rw [hset] at hj
    by_cases e : j = i
    · subst e
      have hf := mem_range_all hfit j hi1
      rw [hd] at hf ⊢
      simp only [decide_eq_true_eq] at hf
      simp only [if_true]
      exact tmps_put_self a d v (by rw [hI.tsize]; exact hf)
    · rcases hj with hj | hj
      · simp only [e, if_false]
        have hne : tDst tab i ≠ some d := fun h => by
          have := mem_range_all (mem_range_all hdist i hi1) j (tDst_lt hd)
          simp [h, hd, show ¬ i = j from fun x => e x.symm] at this
        rw [tmps_put_ne _ _ _ _ hne]
        exact hI.slot j d hj hd
      · exact absurd hj e
  · intro t ht
    have hne : tDst tab i ≠ some t := ht i ((hset i).2 (.inr rfl))
    rw [tmps_put_ne _ _ _ _ hne]
    exact hI.old t fun j hj => ht j ((hset j).2 (.inl hj))
  · intro m hm
    rw [hset]
    have hp := hI.phase m hm
    by_cases hs : sts.contains i = true
    · simp only [hs, if_true]
      obtain ⟨m0, hm0, hg⟩ : ∃ m0, m0 < sts.length ∧ sts.getD m0 tab.length = i := by
        obtain ⟨m0, h0, h1⟩ := List.getElem_of_mem (List.contains_iff_mem.1 hs)
        exact ⟨m0, h0, by simp [h0, h1]⟩
      have hk := o3 m0 hm0 hg
      constructor
      · rintro (h | h)
        · have := hp.1 h; omega
        · have : m = m0 := by
            have := mem_range_all (mem_range_all hnd m hm) m0 hm0
            simp only [Bool.or_eq_true, beq_iff_eq, bne_iff_ne, ne_eq] at this
            rcases this with e | e
            · exact e
            · exfalso; apply e
              have e1 : sts.getD m 0 = sts.getD m tab.length := by simp [hm]
              have e2 : sts.getD m0 0 = sts.getD m0 tab.length := by simp [hm0]
              rw [e1, e2, h, hg]
          omega
      · intro h
        by_cases e : m = m0
        · exact .inr (by rw [e, hg])
        · exact .inl (hp.2 (by omega))
    · have hs' : sts.contains i = false := by simpa using hs
      simp only [hs', Bool.false_eq_true, if_false]
      rw [← hp]
      constructor
      · rintro (h | h)
        · exact h
        · exfalso
          apply hs
          rw [List.contains_iff_mem, ← h]
          simp [hm]
      · exact .inl
  · by_cases hs : sts.contains i = true
    · simp only [hs, if_true]
      obtain ⟨m0, hm0, hg⟩ : ∃ m0, m0 < sts.length ∧ sts.getD m0 tab.length = i := by
        obtain ⟨m0, h0, h1⟩ := List.getElem_of_mem (List.contains_iff_mem.1 hs)
        exact ⟨m0, h0, by simp [h0, h1]⟩
      have hk := o3 m0 hm0 hg
      omega
    · have hs' : sts.contains i = false := by simpa using hs
      simp only [hs', Bool.false_eq_true, if_false]
      exact hI.klen

theorem putL_slot (vs : Nat → Value) : ∀ (tab : List (Option Tmp × List Nat)) (n : Nat) (a : Act) (t : Tmp),
    (putL vs tab n a).tmps.size = a.tmps.size ∧ (putL vs tab n a).defers = a.defers ∧
    ((∀ i, tDst tab i ≠ some t) → (putL vs tab n a).tmps.getD t undef = a.tmps.getD t undef) ∧
    (∀ i, tDst tab i = some t → (∀ j, j ≠ i → tDst tab j ≠ some t) → t < a.tmps.size → (putL vs tab n a).tmps.getD t undef = vs (n + i)) := by
  intro tab
  induction tab with
  | nil => intro n a t; exact ⟨rfl, rfl, fun _ => rfl, fun i h => by simp [tDst] at h⟩
  | cons x l ih =>
    intro n a t
    obtain ⟨h1, h2, h3, h4⟩ := ih (n + 1) (a.put x.1 (vs n)) t
    simp only [putL]
    refine ⟨by rw [h1, tmps_put_size], by rw [h2, put_defers], fun h => ?_, fun i hi hu hlt => ?_⟩
    · rw [h3 (fun i => by have := h (i + 1); simpa [tDst] using this), tmps_put_ne]
      have := h 0; simpa [tDst] using this
    · cases i with
      | zero =>
        have hx : x.1 = some t := by simpa [tDst] using hi
        rw [h3 (fun i => by have := hu (i + 1) (by omega); simpa [tDst] using this), hx, tmps_put_self _ _ _ hlt]; rfl
      | succ i =>
        have := h4 i (by simpa [tDst] using hi) (fun j hj => by have := hu (j + 1) (by omega); simpa [tDst] using this) (by rw [tmps_put_size]; exact hlt)
        rw [this]; congr 1; omega

theorem act_ext {a b : Act} (hs : a.tmps.size = b.tmps.size) (hd : a.defers = b.defers) (h : ∀ t, a.tmps.getD t undef = b.tmps.getD t undef) : a = b := by
  obtain ⟨x, d⟩ := a
  obtain ⟨y, e⟩ := b
  simp only at hs hd h
  subst hd
  have : x = y := by
    apply Array.ext hs
    intro i h1 h2
    have := h i
    simpa [Array.getD_eq_getD_getElem?, h1, h2] using this
  rw [this]

theorem last_inv (htab : tabOf ops = tab) (hok : tabOk tab sts a0.tmps.size = true) {listed : Array Bool} {a : Act} {w : World} {vs : Nat → Value} {k : Nat}
    (hI : RInv tab sts a0 w0 R H St listed a w vs k) (hr : Region.ready .any ops listed = []) :
    a = putL vs tab 0 a0 ∧ k = sts.length ∧ ∀ i, i < tab.length → H i (vs i) w := by
  simp only [tabOk, Bool.and_eq_true] at hok
  obtain ⟨⟨⟨⟨hlt, hdist⟩, hfit⟩, hchain⟩, hnd⟩ := hok
  have all : ∀ i, i < tab.length → listed.getD i false = true := by
    intro i
    induction i using Nat.strongRecOn with
    | _ i ih =>
      intro hi
      by_cases h : listed.getD i false = true
      · exact h
      · exfalso
        have hm : i ∈ Region.ready .any ops listed := by
          rw [ready_mem htab hI.size]
          refine ⟨hi, by simpa using h, fun j hj => ?_⟩
          have := List.all_eq_true.1 (mem_range_all hlt i hi) j hj
          have hji : j < i := by simpa using this
          exact ih j hji (by omega)
        rw [hr] at hm; simp at hm
  refine ⟨?_, ?_, fun i hi => hI.facts i (all i hi)⟩
  · apply act_ext
    · rw [(putL_slot vs tab 0 a0 0).1, hI.tsize]
    · rw [(putL_slot vs tab 0 a0 0).2.1, hI.defers]
    · intro t
      by_cases h : ∃ i, tDst tab i = some t
      · obtain ⟨i, hi⟩ := h
        have hil := tDst_lt hi
        have hu : ∀ j, j ≠ i → tDst tab j ≠ some t := fun j hj hd => by
          have := mem_range_all (mem_range_all hdist j (tDst_lt hd)) i hil
          simp [hi, hd, hj] at this
        have hf := mem_range_all hfit i hil
        rw [hi] at hf
        simp only [decide_eq_true_eq] at hf
        rw [hI.slot i t (all i hil) hi, (putL_slot vs tab 0 a0 t).2.2.2 i hi hu hf, Nat.zero_add]
      · have h' : ∀ i, tDst tab i ≠ some t := fun i hi => h ⟨i, hi⟩
        rw [hI.old t (fun i _ => h' i), (putL_slot vs tab 0 a0 t).2.2.1 h']
  · have hk := hI.klen
    rcases Nat.lt_or_ge k sts.length with h | h
    · exfalso
      have hc := mem_range_all hchain k h
      simp only [Bool.and_eq_true, decide_eq_true_eq] at hc
      have e : sts.getD k tab.length < tab.length := by simpa [h] using hc.1
      have := (hI.phase k h).1 (all _ e)
      omega
    · omega

/-- A REGION THAT DRAWS ITS ORDER, BY WHAT EACH OPERATION LEAVES. R: how the world may turn; H i v w: what operation i's value v is good for from then on (it must outlast R); St k: the state behind k operations of the row 'sts'. -/
theorem wp_region_facts {id : Nat} (hm : P.follows .mixedOrders = true) (tab : List (Option Tmp × List Nat)) (htab : tabOf ops = tab) (sts : List Nat) (hok : tabOk tab sts a0.tmps.size = true)
    (R : World → World → Prop) (Rrefl : ∀ x, R x x) (Rtrans : ∀ x y z, R x y → R y z → R x z)
    (H : Nat → Value → World → Prop) (Hst : ∀ i v w w', R w0.drew w → H i v w → R w w' → H i v w')
    (St : Nat → World → Prop) (hst : St 0 w0.drew)
    (howed : ∀ i, i < tab.length → Owed P ops Q tab sts a0 w0.drew R H St i)
    (hfin : ∀ vs w, R w0.drew w → (∀ i, i < tab.length → H i (vs i) w) → St sts.length w → Q .normal (putL vs tab 0 a0) w) :
    (Code.region id ops true).wp P Q a0 w0 := by
  refine wp_region_any hm ?_
  have key : ∀ fuel listed a w vs k, RInv tab sts a0 w0.drew R H St listed a w vs k → (fuel = 0 → Region.ready .any ops listed = []) →
      (∀ n, fuel = n → (tab.length ≤ n + (List.range tab.length).countP (fun i => listed.getD i false))) → wpAny P .any ops Q fuel listed a w := by
    intro fuel
    induction fuel with
    | zero =>
      intro listed a w vs k hI h0 _
      have hr := h0 rfl
      obtain ⟨e, hk, hf⟩ := last_inv htab hok hI hr
      refine ⟨hr, ?_⟩
      rw [e]; subst hk
      exact hfin vs w hI.rel hf hI.st
    | succ fuel ih =>
      intro listed a w vs k hI _ hc
      refine ⟨fun hr => ?_, fun i hi => ?_⟩
      · obtain ⟨e, hk, hf⟩ := last_inv htab hok hI hr
        rw [e]; subst hk
        exact hfin vs w hI.rel hf hI.st
      · refine wpOp_mono ?_ (step_inv htab hok Rtrans Hst howed hI hi)
        rintro a' w' ⟨vs', k', hI'⟩
        have hcount : tab.length ≤ fuel + (List.range tab.length).countP (fun j => (listed.setIfInBounds i true).getD j false) := by
          have h1 := hc (fuel + 1) rfl
          rw [ready_mem htab hI.size] at hi
          obtain ⟨hi1, hi2, _⟩ := hi
          have h2 : (List.range tab.length).countP (fun i => listed.getD i false) + 1 ≤ (List.range tab.length).countP (fun j => (listed.setIfInBounds i true).getD j false) := by
            have hset : ∀ j, (listed.setIfInBounds i true).getD j false = (listed.getD j false || j == i) := fun j => by
              rw [Bool.eq_iff_iff, getD_setIf]
              simp only [Bool.or_eq_true, beq_iff_eq, hI.size, hi1, and_true]
            simp only [hset]
            have gen : ∀ n, i < n → (List.range n).countP (fun i => listed.getD i false) + 1 ≤ (List.range n).countP (fun j => listed.getD j false || j == i) := by
              intro n
              induction n with
              | zero => intro h; omega
              | succ n ihn =>
                intro hn
                rw [List.range_succ, List.countP_append, List.countP_append]
                by_cases e : i = n
                · subst e
                  have hmono : (List.range i).countP (fun i => listed.getD i false) ≤ (List.range i).countP (fun j => listed.getD j false || j == i) :=
                    List.countP_mono_left (fun x _ hx => by simp only [hx, Bool.true_or])
                  simp only [List.countP_singleton, hi2, Bool.false_eq_true, if_false, Bool.false_or, beq_self_eq_true, if_true]
                  omega
                · have := ihn (by omega)
                  have hne : (n == i) = false := by simp; omega
                  simp only [List.countP_singleton, hne, Bool.or_false]
                  omega
            exact gen tab.length hi1
          omega
        refine ih _ _ _ vs' k' hI' (fun h0 => ?_) (fun n hn => hn ▸ hcount)
        subst h0
        rw [Nat.zero_add] at hcount
        have hall : ∀ j ∈ List.range tab.length, (listed.setIfInBounds i true).getD j false = true := by
          have hle := List.countP_le_length (p := fun j => (listed.setIfInBounds i true).getD j false) (l := List.range tab.length)
          rw [List.length_range] at hle
          have : (List.range tab.length).countP (fun j => (listed.setIfInBounds i true).getD j false) = (List.range tab.length).length := by rw [List.length_range]; omega
          exact List.countP_eq_length.1 this
        refine List.eq_nil_iff_forall_not_mem.2 fun j hj => ?_
        rw [ready_mem htab hI'.size] at hj
        have := hall j (List.mem_range.2 hj.1)
        rw [hj.2.1] at this
        simp at this
  refine key ops.size _ a0 w0.drew (fun _ => undef) 0 ?_ (fun h => ?_) (fun n hn => ?_)
  · have hf : ∀ i, ¬ (Array.replicate ops.size false).getD i false = true := fun i => by
      simp only [Array.getD_eq_getD_getElem?, Array.getElem?_replicate]
      split <;> simp
    exact { size := by simp [tab_len htab], closed := fun i h => absurd h (hf i), rel := Rrefl _, facts := fun i h => absurd h (hf i), defers := rfl, tsize := rfl,
            slot := fun i d h => absurd h (hf i), old := fun _ _ => rfl, st := hst, phase := fun m _ => ⟨fun h => absurd h (hf _), fun h => by omega⟩, klen := Nat.zero_le _ }
  · refine List.eq_nil_iff_forall_not_mem.2 fun j hj => ?_
    have := tab_len htab
    rw [ready_mem htab (by simp [this])] at hj
    omega
  · have := tab_len htab; omega

/-- What is owed, with the rest of the region under a name. -/
def OwedK (P : Program) (ops : Array Oper) (Q : Exit → Act → World → Prop) (tab : List (Option Tmp × List Nat)) (sts : List Nat) (a0 : Act) (w0 : World)
    (R : World → World → Prop) (H : Nat → Value → World → Prop) (St : Nat → World → Prop) (i : Nat) : Prop :=
  ∀ (a : Act) (w : World) (vs : Nat → Value) (k : Nat) (K : Act → World → Prop), R w0 w →
    (∀ j ∈ tPre tab i, H j (vs j) w ∧ ∀ d, tDst tab j = some d → a.tmps.getD d undef = vs j) →
    (∀ t, (∀ j, j < tab.length → tDst tab j = some t → j = i ∨ i ∈ tPre tab j) → a.tmps.getD t undef = a0.tmps.getD t undef) →
    St k w →
    (∀ m, m < sts.length → sts.getD m tab.length = i → k = m) →
    (∀ m, m < sts.length → sts.getD m tab.length ∈ tPre tab i → m < k) →
    (∀ m, m < sts.length → i ∈ tPre tab (sts.getD m tab.length) → k ≤ m) →
    (∀ v w', H i v w' → R w w' → St (if sts.contains i then k + 1 else k) w' → K (a.put (tDst tab i) v) w') →
    wpOp P ops Q i K a w

theorem owed_of {i : Nat} (h : OwedK P ops Q tab sts a0 w0 R H St i) : Owed P ops Q tab sts a0 w0 R H St i :=
  fun a w vs k h1 h2 h3 h4 h5 h6 h7 => h a w vs k _ h1 h2 h3 h4 h5 h6 h7 fun v _ hH hR hS => ⟨v, rfl, hH, hR, hS⟩

theorem wpOp_of {i : Nat} {o : Oper} {K : Act → World → Prop} {a : Act} {w : World} (h : ops[i]? = some o) (hg : o.guard = none) (hw : o.wp P a w K Q) : wpOp P ops Q i K a w := by
  unfold wpOp
  rw [h]
  simp only [Region.wanted, hg, if_true]
  exact .inl hw

/-- The slot of an operation that stands ahead. -/
theorem slot_of {H : Nat → Value → World → Prop} {a : Act} {w : World} {vs : Nat → Value} {l : List Nat} {j : Nat} {d : Tmp}
    (hp : ∀ j ∈ l, H j (vs j) w ∧ ∀ d, tDst tab j = some d → a.tmps.getD d undef = vs j) (hj : j ∈ l) (hd : tDst tab j = some d) : a.tmps.getD d undef = vs j := (hp j hj).2 d hd

theorem old_of {i : Nat} {t : Tmp} {v : Value} {a : Act}
    (hi : ∀ t, (∀ j, j < tab.length → tDst tab j = some t → j = i ∨ i ∈ tPre tab j) → a.tmps.getD t undef = a0.tmps.getD t undef)
    (hc : ((List.range tab.length).all fun j => !(tDst tab j == some t) || j == i || (tPre tab j).contains i) = true) (hv : a0.tmps.getD t undef = v) : a.tmps.getD t undef = v := by
  rw [← hv]
  refine hi t fun j hj hd => ?_
  have := mem_range_all hc j hj
  simp only [hd, beq_self_eq_true, Bool.not_true, Bool.false_or, Bool.or_eq_true, beq_iff_eq, List.contains_iff_mem] at this
  exact this

theorem owed_nil (p : Nat → Prop) : ∀ i, i < 0 → p i := fun _ h => absurd h (Nat.not_lt_zero _)
theorem owed_cons {p : Nat → Prop} {n : Nat} (hr : ∀ i, i < n → p i) (h : p n) : ∀ i, i < n + 1 → p i := fun i hi => by
  rcases Nat.lt_or_ge i n with h1 | h1
  · exact hr i h1
  · rw [show i = n by omega]; exact h

/-- 'wp_region_facts', the operations one by one, from the first on. -/
theorem wp_region_list {id : Nat} (hm : P.follows .mixedOrders = true) (tab : List (Option Tmp × List Nat)) (sts : List Nat) (size n : Nat)
    (R : World → World → Prop) (H : Nat → Value → World → Prop) (St : Nat → World → Prop)
    (htab : tabOf ops = tab) (hsz : a0.tmps.size = size) (hn : tab.length = n) (hok : tabOk tab sts size = true)
    (Rrefl : ∀ x, R x x) (Rtrans : ∀ x y z, R x y → R y z → R x z)
    (Hst : ∀ i v w w', R w0.drew w → H i v w → R w w' → H i v w') (hst : St 0 w0.drew)
    (howed : ∀ i, i < n → OwedK P ops Q tab sts a0 w0.drew R H St i)
    (hfin : ∀ vs w, R w0.drew w → (∀ i, i < n → H i (vs i) w) → St sts.length w → Q .normal (putL vs tab 0 a0) w) :
    (Code.region id ops true).wp P Q a0 w0 := by
  subst hsz hn
  exact wp_region_facts hm tab htab sts hok R Rrefl Rtrans H Hst St hst (fun i hi => owed_of (howed i hi)) hfin
end
end Go.Proofs.Ytcmgfmpmapnckaa
