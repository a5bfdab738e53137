/- The stable sort in plain Lean: exchanges of ranges, rotation, merge. No program in sight. -/
import Derived.Test.YtcmgfmpmapnckaaHs
import Derived.Sort.Lot0
namespace Go.Proofs.Ytcmgfmpmapnckaa
open Go.RowKit Go.Sort
set_option linter.unusedVariables false
set_option linter.unusedSimpArgs false
variable {α : Type} [Inhabited α]

/-- n places from a on exchanged with n from b on. -/
def Xch (a b n : Nat) (d d' : Array α) : Prop :=
  d'.size = d.size ∧ (∀ t, d'[t]! = if a ≤ t ∧ t < a + n then d[b + (t - a)]! else if b ≤ t ∧ t < b + n then d[a + (t - b)]! else d[t]!)
/-- The places a to m and m to b change order. -/
def Rot (a m b : Nat) (d d' : Array α) : Prop :=
  d'.size = d.size ∧ (∀ t, d'[t]! = if a ≤ t ∧ t < a + (b - m) then d[m + (t - a)]! else if a + (b - m) ≤ t ∧ t < b then d[a + (t - (a + (b - m)))]! else d[t]!)

theorem Xch.zero (a b : Nat) (d : Array α) : Xch a b 0 d d := ⟨rfl, fun t => by rw [if_neg (by omega), if_neg (by omega)]⟩
theorem Xch.snoc {a b i : Nat} {d dk : Array α} (h : Xch a b i d dk) (hab : a + i < b) (hb : b + i < d.size) : Xch a b (i + 1) d (swp dk (a + i) (b + i)) := by
  refine ⟨by rw [swp_size]; exact h.1, fun t => ?_⟩
  have hs := h.1
  rw [swp_get dk (by omega) (by omega), h.2, h.2, h.2]
  repeat' split
  all_goals first | omega | rfl | (congr 1 <;> omega)

/-- i > j: the first j of the left against the right; then what is left of the left. -/
theorem Rot.left {i j m : Nat} {d d1 d' : Array α} (hj : j < i) (him : i ≤ m) (h : Xch (m - i) m j d d1) (k : Rot (m - (i - j)) m (m + j) d1 d') : Rot (m - i) m (m + j) d d' := by
  refine ⟨k.1.trans h.1, fun t => ?_⟩
  rw [k.2]
  simp only [h.2]
  repeat' split
  all_goals first | omega | (congr 1 <;> omega)
theorem Rot.right {i j m : Nat} {d d1 d' : Array α} (hj : i < j) (him : i ≤ m) (h : Xch (m - i) (m + j - i) i d d1) (k : Rot (m - i) m (m + (j - i)) d1 d') : Rot (m - i) m (m + j) d d' := by
  refine ⟨k.1.trans h.1, fun t => ?_⟩
  rw [k.2]
  simp only [h.2]
  repeat' split
  all_goals first | omega | (congr 1 <;> omega)
theorem Rot.same {i m : Nat} {d d' : Array α} (him : i ≤ m) (h : Xch (m - i) m i d d') : Rot (m - i) m (m + i) d d' := by
  refine ⟨h.1, fun t => ?_⟩
  rw [h.2]
  repeat' split
  all_goals first | omega | (congr 1 <;> omega)

theorem ext_list {d : Array α} {a b i : Nat} (h : i < b - a) (hb : b ≤ d.size) : (d.extract a b).toList[i]? = some d[a + i]! := by
  have h2 : a + i < d.size := by omega
  rw [Array.getElem?_toList, Array.getElem?_extract_of_lt (by omega)]
  simp [h2]

/-- A rotation, as lists. -/
theorem Rot.lists {a m b : Nat} {d d' : Array α} (h : Rot a m b d d') (ham : a ≤ m) (hmb : m ≤ b) (hb : b ≤ d.size) :
    (d'.extract a b).toList = (d.extract m b).toList ++ (d.extract a m).toList := by
  refine List.ext_getElem? fun i => ?_
  have hb' : b ≤ d'.size := by rw [h.1]; exact hb
  have l1 : (d.extract m b).toList.length = b - m := by simp; omega
  have l2 : (d.extract a m).toList.length = m - a := by simp; omega
  have l3 : (d'.extract a b).toList.length = b - a := by simp; omega
  by_cases h1 : i < b - m
  · rw [List.getElem?_append_left (by omega), ext_list (by omega) hb', ext_list h1 hb, h.2, if_pos (by omega)]
    congr 2; omega
  · rw [List.getElem?_append_right (by omega), l1]
    by_cases h2 : i < b - a
    · rw [ext_list (by omega) hb', ext_list (by omega) (by omega), h.2, if_neg (by omega), if_pos (by omega)]
      congr 2; omega
    · rw [List.getElem?_eq_none (by omega), List.getElem?_eq_none (by omega)]

theorem Rot.perm {a m b : Nat} {d d' : Array α} (h : Rot a m b d d') (ham : a ≤ m) (hmb : m ≤ b) (hb : b ≤ d.size) : PermIn a b d d' := by
  refine ⟨h.1, fun i hi => ?_, ?_⟩
  · rw [h.2, if_neg (by omega), if_neg (by omega)]
  · rw [h.lists ham hmb hb]
    have e : (d.extract a b).toList = (d.extract a m).toList ++ (d.extract m b).toList := by
      rw [← Array.toList_append, Array.extract_append_extract]
      congr 2 <;> omega
    rw [e]
    exact List.perm_append_comm

/-- Each class of equals stands in its old order. -/
def eqv (lt : α → α → Bool) (c x : α) : Bool := !lt c x && !lt x c
def Keep (lt : α → α → Bool) (a b : Nat) (d d' : Array α) : Prop :=
  PermIn a b d d' ∧ ∀ c, ((d'.extract a b).toList.filter (eqv lt c)) = ((d.extract a b).toList.filter (eqv lt c))
variable {lt : α → α → Bool}
theorem Keep.refl (a b : Nat) (d : Array α) : Keep lt a b d d := ⟨permIn_refl d a b, fun _ => rfl⟩
theorem Keep.trans {a b : Nat} {d d' d'' : Array α} (h : Keep lt a b d d') (k : Keep lt a b d' d'') : Keep lt a b d d'' :=
  ⟨permIn_trans _ _ _ _ _ h.1 k.1, fun c => (k.2 c).trans (h.2 c)⟩
omit [Inhabited α] in
theorem extract2 (d : Array α) {a b c : Nat} (hab : a ≤ b) (hbc : b ≤ c) : (d.extract a c).toList = (d.extract a b).toList ++ (d.extract b c).toList := by
  rw [← Array.toList_append, Array.extract_append_extract]
  congr 2 <;> omega
omit [Inhabited α] in
theorem extract3 (d : Array α) {a' a b b' : Nat} (ha : a' ≤ a) (hab : a ≤ b) (hb : b ≤ b') (hs : b' ≤ d.size) :
    (d.extract a' b').toList = (d.extract a' a).toList ++ ((d.extract a b).toList ++ (d.extract b b').toList) := by
  rw [← extract2 d hab hb, ← extract2 d ha (by omega)]
theorem Keep.mono {a b a' b' : Nat} {d d' : Array α} (h : Keep lt a b d d') (ha : a' ≤ a) (hab : a ≤ b) (hb : b ≤ b') (hs : b' ≤ d.size) : Keep lt a' b' d d' := by
  refine ⟨permIn_mono d d' a b a' b' ha hb hs h.1, fun c => ?_⟩
  have hs' : b' ≤ d'.size := by rw [h.1.1]; exact hs
  have e1 : (d'.extract a' a).toList = (d.extract a' a).toList := by
    refine List.ext_getElem? fun i => ?_
    by_cases hi : i < a - a'
    · rw [ext_list hi (by omega), ext_list hi (by omega), h.1.2.1 _ (by omega)]
    · rw [List.getElem?_eq_none (by simp; omega), List.getElem?_eq_none (by simp; omega)]
  have e2 : (d'.extract b b').toList = (d.extract b b').toList := by
    refine List.ext_getElem? fun i => ?_
    by_cases hi : i < b' - b
    · rw [ext_list hi (by omega), ext_list hi (by omega), h.1.2.1 _ (by omega)]
    · rw [List.getElem?_eq_none (by simp; omega), List.getElem?_eq_none (by simp; omega)]
  rw [extract3 d' ha hab hb hs', extract3 d ha hab hb hs, e1, e2, List.filter_append, List.filter_append, List.filter_append, List.filter_append, h.2 c]

theorem mem_ext {d : Array α} {a b : Nat} {x : α} (hb : b ≤ d.size) (h : x ∈ (d.extract a b).toList) : ∃ i, a ≤ i ∧ i < b ∧ d[i]! = x := by
  obtain ⟨i, hi, hx⟩ := List.getElem_of_mem h
  have hl : (d.extract a b).toList.length = b - a := by simp; omega
  have := ext_list (d := d) (a := a) (b := b) (i := i) (by omega) hb
  rw [List.getElem?_eq_getElem hi, hx] at this
  exact ⟨a + i, by omega, by omega, (Option.some.inj this).symm⟩

/-- A rotation of a right part that is strictly less than the left one. -/
theorem Rot.keep (hS : SWO lt) {a m b : Nat} {d d' : Array α} (h : Rot a m b d d') (ham : a ≤ m) (hmb : m ≤ b) (hb : b ≤ d.size)
    (hlt : ∀ i j, a ≤ i → i < m → m ≤ j → j < b → lt d[j]! d[i]! = true) : Keep lt a b d d' := by
  refine ⟨h.perm ham hmb hb, fun c => ?_⟩
  have e : (d.extract a b).toList = (d.extract a m).toList ++ (d.extract m b).toList := by
    rw [← Array.toList_append, Array.extract_append_extract]
    congr 2 <;> omega
  rw [h.lists ham hmb hb, e, List.filter_append, List.filter_append]
  by_cases h1 : ((d.extract a m).toList.filter (eqv lt c)) = []
  · rw [h1]; simp
  · by_cases h2 : ((d.extract m b).toList.filter (eqv lt c)) = []
    · rw [h2]; simp
    · exfalso
      obtain ⟨x, hx⟩ := List.exists_mem_of_ne_nil _ h1
      obtain ⟨y, hy⟩ := List.exists_mem_of_ne_nil _ h2
      obtain ⟨mx, ex⟩ := List.mem_filter.1 hx
      obtain ⟨my, ey⟩ := List.mem_filter.1 hy
      obtain ⟨i, i0, i1, rfl⟩ := mem_ext (by omega) mx
      obtain ⟨j, j0, j1, rfl⟩ := mem_ext (by omega) my
      have := hlt i j i0 i1 j0 j1
      simp only [eqv, Bool.and_eq_true, Bool.not_eq_true'] at ex ey
      have := hS.ntrans _ _ _ ey.2 ex.1
      simp_all

theorem sorted_le (hS : SWO lt) {a b : Nat} {d : Array α} (h : SortedIn lt a b d) {i j : Nat} (hi : a ≤ i) (hij : i ≤ j) (hj : j < b) : lt d[j]! d[i]! = false := by
  rcases Nat.lt_or_eq_of_le hij with h1 | rfl
  · exact h i j hi h1 hj
  · exact hS.irrefl _

/-- What stands behind the merge's search and rotation. -/
structure Cut (lt : α → α → Bool) (a start m mid e b : Nat) (d d1 : Array α) : Prop where
  keep : Keep lt a b d d1
  apart : ∀ i j, a ≤ i → i < mid → mid ≤ j → j < b → lt d1[j]! d1[i]! = false
  s1 : SortedIn lt a start d1
  s2 : SortedIn lt start mid d1
  s3 : SortedIn lt mid e d1
  s4 : SortedIn lt e b d1

theorem cut_ok (hS : SWO lt) {a start m mid e b : Nat} {d d1 : Array α} (h1 : a ≤ start) (h2 : start ≤ m) (h3 : start ≤ mid) (h4 : start + e = mid + m) (h5 : e ≤ b) (hb : b ≤ d.size)
    (hA : SortedIn lt a m d) (hB : SortedIn lt m b d) (hrot : Rot start m e d d1)
    (hlo : a < start → e < b → lt d[e]! d[start - 1]! = false) (hhi : start < m → start < mid → lt d[e - 1]! d[start]! = true) : Cut lt a start m mid e b d d1 := by
  have hme : m ≤ e := by omega
  have hmide : mid ≤ e := by omega
  have hstrict : ∀ i j, start ≤ i → i < m → m ≤ j → j < e → lt d[j]! d[i]! = true := by
    intro i j i0 i1 j0 j1
    have hh := hhi (by omega) (by omega)
    have ha := sorted_le hS hA h1 i0 i1
    have hb2 := sorted_le hS hB j0 (show j ≤ e - 1 by omega) (by omega)
    cases hx : lt d[j]! d[i]! with
    | true => rfl
    | false =>
      have := hS.ntrans _ _ _ hb2 (hS.ntrans _ _ _ hx ha)
      rw [hh] at this; cases this
  have g1 : ∀ i, i < start → d1[i]! = d[i]! := fun i hi => by rw [hrot.2, if_neg (by omega), if_neg (by omega)]
  have g2 : ∀ i, start ≤ i → i < mid → d1[i]! = d[m + (i - start)]! := fun i h0 h1 => by rw [hrot.2, if_pos (by omega)]
  have g3 : ∀ i, mid ≤ i → i < e → d1[i]! = d[start + (i - mid)]! := fun i h0 h1 => by
    rw [hrot.2, if_neg (by omega), if_pos (by omega)]; congr 2; omega
  have g4 : ∀ i, e ≤ i → d1[i]! = d[i]! := fun i hi => by rw [hrot.2, if_neg (by omega), if_neg (by omega)]
  refine ⟨(hrot.keep hS h2 hme (by omega) hstrict).mono h1 (by omega) h5 hb, ?_, ?_, ?_, ?_, ?_⟩
  · intro i j i0 i1 j0 j1
    by_cases hi : i < start
    · rw [g1 i hi]
      by_cases hj : j < e
      · rw [g3 j j0 hj]; exact sorted_le hS hA i0 (by omega) (by omega)
      · rw [g4 j (by omega)]
        have e1 := sorted_le hS hB (show m ≤ e from hme) (show e ≤ j by omega) j1
        have e2 := hlo (by omega) (by omega)
        have e3 := sorted_le hS hA i0 (show i ≤ start - 1 by omega) (by omega)
        exact hS.ntrans _ _ _ e1 (hS.ntrans _ _ _ e2 e3)
    · rw [g2 i (by omega) i1]
      by_cases hj : j < e
      · rw [g3 j j0 hj]
        exact hS.asymmA (hstrict _ _ (by omega) (by omega) (by omega) (by omega))
      · rw [g4 j (by omega)]; exact sorted_le hS hB (by omega) (by omega) j1
  · intro i j i0 ij j1; rw [g1 i (by omega), g1 j j1]; exact hA i j i0 ij (by omega)
  · intro i j i0 ij j1; rw [g2 i i0 (by omega), g2 j (by omega) j1]; exact sorted_le hS hB (by omega) (by omega) (by omega)
  · intro i j i0 ij j1; rw [g3 i i0 (by omega), g3 j (by omega) j1]; exact sorted_le hS hA (by omega) (by omega) (by omega)
  · intro i j i0 ij j1; rw [g4 i i0, g4 j (by omega)]; exact hB i j (by omega) ij j1

/-- What a merge gives. -/
def Merged (lt : α → α → Bool) (a b : Nat) (d d' : Array α) : Prop := Keep lt a b d d' ∧ SortedIn lt a b d'

theorem cut_join {a start m mid e b : Nat} {d d1 d2 d3 : Array α} (hC : Cut lt a start m mid e b d d1) (ha : a ≤ mid) (hm : mid ≤ b) (hb : b ≤ d.size)
    (h2 : Merged lt a mid d1 d2) (h3 : Merged lt mid b d2 d3) : Merged lt a b d d3 := by
  have z1 : d1.size = d.size := hC.keep.1.1
  have z2 : d2.size = d.size := h2.1.1.1.trans z1
  refine ⟨(hC.keep.trans (h2.1.mono (Nat.le_refl _) ha hm (by omega))).trans (h3.1.mono ha hm (Nat.le_refl _) (by omega)), ?_⟩
  have p1 : ∀ i, a ≤ i → i < mid → ∀ j, mid ≤ j → j < b → lt d1[j]! d2[i]! = false :=
    permIn_all d1 d2 a mid (fun x => ∀ j, mid ≤ j → j < b → lt d1[j]! x = false) (by omega) h2.1.1 (fun i i0 i1 j j0 j1 => hC.apart i j i0 i1 j0 j1)
  have p2 : ∀ j, mid ≤ j → j < b → ∀ i, a ≤ i → i < mid → lt d3[j]! d2[i]! = false :=
    permIn_all d2 d3 mid b (fun y => ∀ i, a ≤ i → i < mid → lt y d2[i]! = false) (by omega) h3.1.1 (fun j j0 j1 i i0 i1 => by rw [h2.1.1.2.1 j (by omega)]; exact p1 i i0 i1 j j0 j1)
  intro i j i0 ij j1
  by_cases hj : j < mid
  · rw [h3.1.1.2.1 i (by omega), h3.1.1.2.1 j (by omega)]; exact h2.2 i j i0 ij hj
  · by_cases hi : i < mid
    · rw [h3.1.1.2.1 i (by omega)]; exact p2 j (by omega) j1 i i0 hi
    · exact h3.2 i j (by omega) ij j1

theorem Rot.refl_left (a b : Nat) (d : Array α) : Rot a a b d d := ⟨rfl, fun t => by
  repeat' split
  all_goals first | omega | rfl | (congr 1 <;> omega)⟩
theorem Rot.refl_right (a m : Nat) (d : Array α) : Rot a m m d d := ⟨rfl, fun t => by
  repeat' split
  all_goals first | omega | rfl | (congr 1 <;> omega)⟩
/-- The first one goes one place further on. -/
theorem Rot.push {a k : Nat} {d dk : Array α} (h : Rot a (a + 1) (k + 1) d dk) (hak : a ≤ k) (hk : k + 1 < d.size) : Rot a (a + 1) (k + 2) d (swp dk k (k + 1)) := by
  refine ⟨by rw [swp_size]; exact h.1, fun t => ?_⟩
  have hs := h.1
  rw [swp_get dk (by omega) (by omega), h.2, h.2, h.2]
  repeat' split
  all_goals first | omega | rfl | (congr 1 <;> omega)
/-- The last one goes one place further back. -/
theorem Rot.pull {m k : Nat} {d dk : Array α} (h : Rot (k + 1) m (m + 1) d dk) (hk : k + 1 ≤ m) (hm : m < d.size) : Rot k m (m + 1) d (swp dk (k + 1) k) := by
  refine ⟨by rw [swp_size]; exact h.1, fun t => ?_⟩
  have hs := h.1
  rw [swp_get dk (by omega) (by omega), h.2, h.2, h.2]
  repeat' split
  all_goals first | omega | rfl | (congr 1 <;> omega)

theorem merge_first (hS : SWO lt) {a i b : Nat} {d d1 : Array α} (hai : a + 1 ≤ i) (hib : i ≤ b) (hb : b ≤ d.size) (hB : SortedIn lt (a + 1) b d) (hrot : Rot a (a + 1) i d d1)
    (hlo : a + 1 < i → lt d[i - 1]! d[a]! = true) (hhi : i < b → lt d[i]! d[a]! = false) : Merged lt a b d d1 := by
  have hC : Cut lt a a (a + 1) (i - 1) i b d d1 := cut_ok hS (Nat.le_refl _) (by omega) (by omega) (by omega) hib hb (fun x y h1 h2 h3 => by omega) hB hrot (fun h => by omega) (fun _ h => hlo (by omega))
  refine cut_join hC (by omega) (by omega) hb ⟨Keep.refl _ _ _, hC.s2⟩ ⟨Keep.refl _ _ _, ?_⟩
  have g : d1[i - 1]! = d[a]! := by rw [hrot.2, if_neg (by omega), if_pos (by omega)]; congr 1; omega
  intro x y hx hxy hy
  by_cases h : x = i - 1
  · subst h
    have gy : d1[y]! = d[y]! := by rw [hrot.2, if_neg (by omega), if_neg (by omega)]
    rw [g, gy]
    exact hS.ntrans _ _ _ (sorted_le hS hB (show a + 1 ≤ i by omega) (show i ≤ y by omega) hy) (hhi (by omega))
  · exact hC.s4 x y (by omega) hxy hy
theorem merge_last (hS : SWO lt) {a i m : Nat} {d d1 : Array α} (hai : a ≤ i) (him : i ≤ m) (hb : m + 1 ≤ d.size) (hA : SortedIn lt a m d) (hrot : Rot i m (m + 1) d d1)
    (hlo : a < i → lt d[m]! d[i - 1]! = false) (hhi : i < m → lt d[m]! d[i]! = true) : Merged lt a (m + 1) d d1 := by
  have hC : Cut lt a i m (i + 1) (m + 1) (m + 1) d d1 := cut_ok hS hai him (by omega) (by omega) (Nat.le_refl _) hb hA (fun x y h1 h2 h3 => by omega) hrot (fun _ h => by omega) (fun h _ => by simpa using hhi h)
  refine cut_join hC (by omega) (by omega) hb ⟨Keep.refl _ _ _, ?_⟩ ⟨Keep.refl _ _ _, hC.s3⟩
  have g : d1[i]! = d[m]! := by rw [hrot.2, if_pos (by omega)]; congr 1; omega
  intro x y hx hxy hy
  by_cases h : y = i
  · subst h
    have gx : d1[x]! = d[x]! := by rw [hrot.2, if_neg (by omega), if_neg (by omega)]
    rw [g, gx]
    exact hS.ntrans _ _ _ (hlo (by omega)) (sorted_le hS hA hx (show x ≤ y - 1 by omega) (by omega))
  · exact hC.s1 x y hx hxy (by omega)

theorem insInner_keep (hS : SWO lt) (a b : Nat) : ∀ (j : Nat) (d : Array α), a ≤ b → j < b → b ≤ d.size → Keep lt a b d (insInner lt a j d)
  | 0, d, _, _, _ => by unfold insInner; exact Keep.refl _ _ _
  | j + 1, d, hab, hj, hb => by
    unfold insInner
    by_cases h : (decide (j + 1 > a) && lt d[j + 1]! d[j]!) = true
    · rw [if_pos h]
      simp only [Bool.and_eq_true, decide_eq_true_eq] at h
      have hr : Rot j (j + 1) (j + 2) d (swp d (j + 1) j) := Rot.pull (Rot.refl_left (j + 1) (j + 2) d) (Nat.le_refl _) (by omega)
      have hk : Keep lt j (j + 2) d (swp d (j + 1) j) := hr.keep hS (by omega) (by omega) (by omega) (fun x y h1 h2 h3 h4 => by
        obtain rfl : x = j := by omega
        obtain rfl : y = x + 1 := by omega
        exact h.2)
      refine (hk.mono (by omega) (by omega) (by omega) hb).trans (insInner_keep hS a b j _ hab (by omega) (by rw [swp_size]; exact hb))
    · rw [if_neg h]; exact Keep.refl _ _ _
theorem insOuter_keep (hS : SWO lt) (a b : Nat) (hab : a ≤ b) : ∀ (n i : Nat) (d : Array α), b - i ≤ n → b ≤ d.size → Keep lt a b d (insOuter lt a b i d)
  | 0, i, d, hn, hb => by rw [insOuter, if_neg (by omega)]; exact Keep.refl _ _ _
  | n + 1, i, d, hn, hb => by
    rw [insOuter]
    by_cases h : i < b
    · rw [if_pos h]
      have h1 := insInner_keep hS a b i d hab h hb
      exact h1.trans (insOuter_keep hS a b hab n (i + 1) _ (by omega) (by rw [h1.1.1]; exact hb))
    · rw [if_neg h]; exact Keep.refl _ _ _
theorem insertion_merged (hS : SWO lt) (a b : Nat) (d : Array α) (hab : a ≤ b) (hb : b ≤ d.size) : Merged lt a b d (insertionSort lt d a b) :=
  ⟨insOuter_keep hS a b hab _ _ d (Nat.le_refl _) hb, (insertionSort_holds hS d a b hab hb).2⟩

end Go.Proofs.Ytcmgfmpmapnckaa
