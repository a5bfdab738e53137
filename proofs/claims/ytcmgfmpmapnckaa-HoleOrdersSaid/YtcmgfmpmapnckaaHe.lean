/- Plain laws of bodies: what stands in a body; its holes. -/
import Derived.Test.YtcmgfmpmapnckaaHd
namespace Go.Proofs.Ytcmgfmpmapnckaa
open Go.Shelf Go.RowKit Go.Lib Go.Sort
set_option linter.unusedVariables false
set_option linter.unusedSimpArgs false

def Apart (x y : Pc) : Prop := x.data.size = 0 ∨ y.data.size = 0 ∨ x.to_ ≤ y.frm ∨ y.to_ ≤ x.frm
theorem Apart.symm {x y : Pc} (h : Apart x y) : Apart y x := by
  unfold Apart at *; omega
theorem ovl_false {p x : Pc} (hp : p.Ok) (hx : x.Ok) (h : ovl p x = false) : Apart p x := by
  have h1 := hp.len; have h2 := hp.lo; have h3 := hx.len; have h4 := hx.lo
  have e1 : IntKind.i64.wrap (p.frm + (p.data.size : Int)) = p.frm + (p.data.size : Int) := IntWalk.i64_in _ (by omega)
  have e2 : IntKind.i64.wrap (x.frm + (x.data.size : Int)) = x.frm + (x.data.size : Int) := IntWalk.i64_in _ (by omega)
  unfold ovl at h
  rw [e1, e2, decide_eq_false_iff_not] at h
  unfold Apart Pc.to_
  omega

structure Good (d : Array Pc) (e : Int) : Prop where
  ok : ∀ x ∈ d.toList, x.Ok
  sorted : SortedIn (ltOf cfP) 0 d.size d
  apart : d.toList.Pairwise Apart
  top : 0 ≤ e → ∀ x ∈ d.toList, x.to_ ≤ e
  lo : -1 ≤ e
  hi : e ≤ 65535

theorem Good.nil : Good #[] (-1) := ⟨by simp, fun i j _ _ h => absurd h (by simp), by simp, by simp, by omega, by omega⟩

theorem merged_perm {d d' : Array Pc} {n : Nat} (hn : n = d.size) (h : Merged (ltOf cfP) 0 n d d') : d'.toList.Perm d.toList ∧ SortedIn (ltOf cfP) 0 d'.size d' := by
  subst hn
  have hs : d'.size = d.size := h.1.1.1
  have := h.1.1.2.2
  rw [Array.extract_eq_self_of_le (by omega), Array.extract_eq_self_of_le (by omega)] at this
  exact ⟨this, by rw [hs]; exact h.2⟩

theorem lastTo_list (d : Array Pc) : ∀ x ∈ d.toList, x.to_ ≤ lastTo d d.size := by
  intro x hx
  obtain ⟨i, hi, rfl⟩ := List.getElem_of_mem hx
  have hi' : i < d.size := by simpa using hi
  have := lastTo_le d d.size (Nat.le_refl _) i hi'
  rw [getElem!_pos d i hi'] at this
  simpa using this

theorem good_step {d d' : Array Pc} {e e' : Int} {p : Pc} {r : Int} (h : Good d e) (hs : AddStep d e p r d' e') : Good d' e' := by
  unfold AddStep at hs
  split at hs
  · obtain ⟨_, rfl, rfl⟩ := hs; exact h
  rename_i h0
  split at hs
  · obtain ⟨_, rfl, rfl⟩ := hs; exact h
  split at hs
  · obtain ⟨_, rfl, rfl⟩ := hs; exact h
  rename_i h2
  split at hs
  · obtain ⟨_, rfl, rfl⟩ := hs; exact h
  rename_i h3
  obtain ⟨_, he, hM⟩ := hs
  have hp : p.Ok := shapeN_zero (Classical.byContradiction h0)
  obtain ⟨hperm, hsort⟩ := merged_perm (by rw [Array.size_push]) hM
  rw [Array.toList_push] at hperm
  have hmem : ∀ x ∈ d'.toList, x ∈ d.toList ∨ x = p := fun x hx => by simpa using hperm.mem_iff.1 hx
  have hp1 := hp.len
  have hp2 := hp.lo
  refine ⟨fun x hx => (hmem x hx).elim (h.ok x) (fun e => e ▸ hp), hsort, ?_, ?_, ?_, ?_⟩
  · refine (hperm.pairwise_iff (R := Apart) (fun hxy => hxy.symm)).2 ?_
    refine List.pairwise_append.2 ⟨h.apart, by simp, fun x hx y hy => ?_⟩
    obtain rfl : y = p := by simpa using hy
    refine (ovl_false hp (h.ok x hx) ?_).symm
    cases ho : ovl y x with
    | false => rfl
    | true => exact absurd (List.any_eq_true.2 ⟨x, hx, ho⟩) h2
  · intro h0' x hx
    unfold endsB at h3
    by_cases hm : p.more = true
    · rw [if_pos hm] at he h3
      subst he
      simp only [Bool.and_eq_true, decide_eq_true_eq, not_and] at h3
      rcases hmem x hx with hx | rfl
      · exact h.top h0' x hx
      · have := h3 h0'; omega
    · rw [if_neg hm] at he h3
      subst he
      simp only [Bool.or_eq_true, decide_eq_true_eq, not_or] at h3
      rcases hmem x hx with hx | rfl
      · have := lastTo_list d x hx; omega
      · omega
  · rw [he]; split
    · exact h.lo
    · unfold Pc.to_; omega
  · rw [he]; split
    · exact h.hi
    · unfold Pc.to_; omega

def hsum (l : List (Int × Int)) : Int := (l.map fun h => h.2 - h.1).sum
theorem hsum_snoc (l : List (Int × Int)) (a b : Int) : hsum (l ++ [(a, b)]) = hsum l + (b - a) := by
  unfold hsum; rw [List.map_append, List.sum_append]; simp
/-- Holes in order, none beside another one, all below a place. -/
def HOk (l : List (Int × Int)) (at_ : Int) : Prop := ∀ k, k < l.length → (l[k]!).1 < (l[k]!).2 ∧ (l[k]!).2 < at_ ∧ 0 ≤ (l[k]!).1 ∧ (0 < k → (l[k - 1]!).2 < (l[k]!).1)
theorem HOk.mono {l : List (Int × Int)} {a b : Int} (h : HOk l a) (hab : a ≤ b) : HOk l b := fun k hk => by
  obtain ⟨h1, h2, h3, h4⟩ := h k hk
  exact ⟨h1, by omega, h3, h4⟩
theorem get_snoc_lt {α : Type} [Inhabited α] (l : List α) (x : α) {k : Nat} (h : k < l.length) : (l ++ [x])[k]! = l[k]! := by
  rw [getElem!_pos (l ++ [x]) k (by simp; omega), getElem!_pos l k h, List.getElem_append_left h]
theorem get_snoc_eq {α : Type} [Inhabited α] (l : List α) (x : α) : (l ++ [x])[l.length]! = x := by
  rw [getElem!_pos (l ++ [x]) l.length (by simp)]; simp
theorem HOk.snoc {l : List (Int × Int)} {a f b : Int} (h : HOk l a) (h0 : 0 ≤ a) (h1 : a < f) (h2 : f < b) : HOk (l ++ [(a, f)]) b := by
  intro k hk
  rw [List.length_append, List.length_singleton] at hk
  by_cases hlt : k < l.length
  · obtain ⟨g1, g2, g3, g4⟩ := h k hlt
    rw [get_snoc_lt l _ hlt]
    refine ⟨g1, by omega, g3, fun hk0 => ?_⟩
    rw [get_snoc_lt l _ (by omega)]
    exact g4 hk0
  · obtain rfl : k = l.length := by omega
    rw [get_snoc_eq]
    refine ⟨h1, h2, h0, fun hk0 => ?_⟩
    rw [get_snoc_lt l _ (by omega)]
    exact (h (l.length - 1) (by omega)).2.1

theorem list_get (d : Array Pc) {i : Nat} (hi : i < d.size) : d[i]! ∈ d.toList := by
  rw [getElem!_pos d i hi]; simp
theorem Good.le {d : Array Pc} {e : Int} (h : Good d e) {j i : Nat} (hj : j < i) (hi : i < d.size) (h1 : d[j]!.data.size ≠ 0) (h2 : d[i]!.data.size ≠ 0) : d[j]!.to_ ≤ d[i]!.frm := by
  have hs := h.sorted j i (Nat.zero_le _) hj hi
  rw [ltP_false] at hs
  have ha := List.pairwise_iff_getElem.1 h.apart j i (by simpa using (by omega : j < d.size)) (by simpa using hi) hj
  have e1 : d.toList[j]'(by simpa using (by omega : j < d.size)) = d[j]! := by rw [getElem!_pos d j (by omega)]; simp
  have e2 : d.toList[i]'(by simpa using hi) = d[i]! := by rw [getElem!_pos d i hi]; simp
  rw [e1, e2] at ha
  have hl := (h.ok _ (list_get d hi)).lo
  unfold Apart Pc.to_ at *
  omega

theorem holes_inv {d : Array Pc} {e : Int} (h : Good d e) : ∀ i, i ≤ d.size → HOk (holesTo d i).1 (holesTo d i).2 ∧ hsum (holesTo d i).1 + sumTo d i = (holesTo d i).2 ∧ 0 ≤ (holesTo d i).2 ∧
    ((holesTo d i).2 = 0 ∨ ∃ j, j < i ∧ d[j]!.data.size ≠ 0 ∧ d[j]!.to_ = (holesTo d i).2)
  | 0, _ => ⟨fun k hk => absurd hk (Nat.not_lt_zero _), rfl, Int.le_refl _, .inl rfl⟩
  | i + 1, hi => by
    obtain ⟨h1, h2, h3, h4⟩ := holes_inv h i (by omega)
    rw [holesTo_succ d (by omega), sumTo_succ d (by omega)]
    generalize holesTo d i = s at h1 h2 h3 h4
    have hok := h.ok _ (list_get d (show i < d.size by omega))
    have hl := hok.lo
    by_cases hz : d[i]!.data.size = 0
    · rw [hstep, if_pos hz]
      refine ⟨h1, by omega, h3, h4.imp id fun ⟨j, hj, hr⟩ => ⟨j, by omega, hr⟩⟩
    · have hge : s.2 ≤ d[i]!.frm := by
        rcases h4 with h4 | ⟨j, hj, hjz, hjt⟩
        · omega
        · rw [← hjt]; exact h.le hj (by omega) hjz hz
      have hto : d[i]!.to_ = d[i]!.frm + (d[i]!.data.size : Int) := rfl
      rw [hstep, if_neg hz]
      refine ⟨?_, ?_, by show 0 ≤ d[i]!.to_; omega, .inr ⟨i, by omega, hz, rfl⟩⟩
      · show HOk (if d[i]!.frm > s.2 then s.1 ++ [(s.2, d[i]!.frm)] else s.1) d[i]!.to_
        split
        · exact h1.snoc h3 (by omega) (by omega)
        · exact h1.mono (by omega)
      · show hsum (if d[i]!.frm > s.2 then s.1 ++ [(s.2, d[i]!.frm)] else s.1) + ((sumTo d i + d[i]!.data.size : Nat) : Int) = d[i]!.to_
        split
        · rw [hsum_snoc]; omega
        · omega

theorem holes_good {d : Array Pc} {e : Int} (h : Good d e) : HOk (holesOf d e) 65536 ∧ hsum (holesOf d e) + sumTo d d.size = topOf e := by
  obtain ⟨h1, h2, h3, h4⟩ := holes_inv h d.size (Nat.le_refl _)
  have ht : (holesTo d d.size).2 ≤ topOf e ∧ topOf e ≤ 65535 := by
    have hi := h.hi
    unfold topOf
    rcases h4 with h4 | ⟨j, hj, _, hjt⟩
    · split <;> omega
    · have hm := list_get d hj
      have hl := (h.ok _ hm).len
      have : d[j]!.to_ = d[j]!.frm + (d[j]!.data.size : Int) := rfl
      split
      · have := h.top (by omega) _ hm; omega
      · omega
  unfold holesOf
  generalize holesTo d d.size = s at h1 h2 h3 h4 ht
  split
  · exact ⟨h1.snoc h3 (by omega) (by omega), by rw [hsum_snoc]; omega⟩
  · exact ⟨h1.mono (by omega), by omega⟩

end Go.Proofs.Ytcmgfmpmapnckaa
