/- Plain laws of HoleOrders: bytes cut to pieces, that come in whatever order. -/
import Derived.Test.YtcmgfmpmapnckaaHg
namespace Go.Proofs.Ytcmgfmpmapnckaa
open Go.Shelf Go.RowKit Go.Lib Go.Sort
set_option linter.unusedVariables false
set_option linter.unusedSimpArgs false

def psum (l : List Pc) : Nat := (l.map (·.data.size)).sum
/-- Pieces cut so far, up to a place. -/
structure Pre (s : ByteArray) (L : List Pc) (a : Nat) : Prop where
  pw : L.Pairwise (fun x y => x.to_ ≤ y.frm)
  all : ∀ x ∈ L, x.more = true ∧ x.Ok ∧ 0 < x.data.size ∧ x.to_ ≤ a
  lt : a = 0 ∨ a < s.size
  unit : a % 8 = 0
  cat : L.flatMap (·.data.data.toList) = s.data.toList.take a
  sum : psum L = a

theorem Pre.nil (s : ByteArray) : Pre s [] 0 := ⟨by simp, by simp, .inl rfl, rfl, by simp, rfl⟩

theorem ext_size (s : ByteArray) {a b : Nat} (hab : a ≤ b) (hb : b ≤ s.size) : (s.extract a b).size = b - a := by
  rw [ByteArray.size_extract]; omega
theorem ext_list' (s : ByteArray) (a b : Nat) : (s.extract a b).data.toList = (s.data.toList.take b).drop a := by
  rw [ByteArray.data_extract, Array.toList_extract, List.extract_eq_take_drop, List.drop_take]

theorem Pre.snoc {s : ByteArray} {L : List Pc} {a n : Nat} (h : Pre s L a) (h8 : n % 8 = 0) (h0 : 0 < n) (hl : a + n < s.size) (hs : s.size ≤ 300) :
    Pre s (L ++ [⟨(a : Int), s.extract a (a + n), true⟩]) (a + n) := by
  have hz : (s.extract a (a + n)).size = n := by rw [ext_size s (by omega) (by omega)]; omega
  have hu := h.unit
  refine ⟨?_, ?_, .inr hl, by omega, ?_, ?_⟩
  · refine List.pairwise_append.2 ⟨h.pw, by simp, fun x hx y hy => ?_⟩
    obtain rfl : y = _ := by simpa using hy
    exact (h.all x hx).2.2.2
  · intro x hx
    rcases List.mem_append.1 hx with hx | hx
    · obtain ⟨h1, h2, h3, h4⟩ := h.all x hx
      exact ⟨h1, h2, h3, by omega⟩
    · obtain rfl : x = _ := by simpa using hx
      refine ⟨rfl, ⟨?_, ?_, ?_, ?_, ?_⟩, ?_, ?_⟩
      · show (0 : Int) ≤ (a : Int); omega
      · show (a : Int) ≤ 65528; omega
      · show (a : Int) % 8 = 0; omega
      · show (a : Int) + ((s.extract a (a + n)).size : Int) ≤ 65535; rw [hz]; omega
      · intro _; show 0 < (s.extract a (a + n)).size ∧ (s.extract a (a + n)).size % 8 = 0; rw [hz]; exact ⟨h0, h8⟩
      · show 0 < (s.extract a (a + n)).size; omega
      · show (a : Int) + ((s.extract a (a + n)).size : Int) ≤ ((a + n : Nat) : Int); rw [hz]; omega
  · rw [List.flatMap_append, h.cat]
    simp only [List.flatMap_cons, List.flatMap_nil, List.append_nil]
    rw [ext_list', show s.data.toList.take a = (s.data.toList.take (a + n)).take a by rw [List.take_take, Nat.min_eq_left (by omega)], List.take_append_drop]
  · unfold psum
    rw [List.map_append, List.sum_append]
    have := h.sum
    unfold psum at this
    simp only [List.map_cons, List.map_nil, List.sum_cons, List.sum_nil, hz]
    omega

/-- All pieces of bytes. -/
structure Cuts (s : ByteArray) (M : List Pc) : Prop where
  pw : M.Pairwise (fun x y => x.to_ ≤ y.frm)
  lt : M.Pairwise (fun x y => x.frm < y.frm)
  ok : ∀ x ∈ M, x.Ok
  le : ∀ x ∈ M, x.to_ ≤ (s.size : Int)
  cat : M.flatMap (·.data.data.toList) = s.data.toList
  sum : psum M = s.size
  size : s.size ≤ 300
  last : ∃ L z, M = L ++ [z] ∧ z.more = false ∧ z.to_ = (s.size : Int) ∧ ∀ x ∈ L, x.more = true ∧ 0 < x.data.size

theorem Pre.done {s : ByteArray} {L : List Pc} {a : Nat} (h : Pre s L a) (hs : s.size ≤ 300)   : Cuts s (L ++ [⟨(a : Int), s.extract a s.size, false⟩]) := by
  have ha : a ≤ s.size := by rcases h.lt with h | h <;> omega
  have hz : (s.extract a s.size).size = s.size - a := ext_size s ha (Nat.le_refl _)
  have hpw : (L ++ [(⟨(a : Int), s.extract a s.size, false⟩ : Pc)]).Pairwise (fun x y => x.to_ ≤ y.frm) := by
    refine List.pairwise_append.2 ⟨h.pw, by simp, fun x hx y hy => ?_⟩
    obtain rfl : y = _ := by simpa using hy
    exact (h.all x hx).2.2.2
  have hz2 : (⟨(a : Int), s.extract a s.size, false⟩ : Pc).to_ = (s.size : Int) := by
    show (a : Int) + ((s.extract a s.size).size : Int) = _; rw [hz]; omega
  have hu := h.unit
  refine ⟨hpw, ?_, ?_, ?_, ?_, ?_, hs, L, _, rfl, rfl, hz2, fun x hx => ⟨(h.all x hx).1, (h.all x hx).2.2.1⟩⟩
  · refine List.pairwise_append.2 ⟨?_, by simp, fun x hx y hy => ?_⟩
    · refine (List.Pairwise.and_mem.1 h.pw).imp fun {x y} hxy => ?_
      have h1 := (h.all x hxy.1).2.2.1
      have h2 := hxy.2.2
      unfold Pc.to_ at h2
      omega
    · obtain rfl : y = _ := by simpa using hy
      obtain ⟨_, _, h1, h2⟩ := h.all x hx
      unfold Pc.to_ at h2
      show x.frm < (a : Int)
      omega
  · intro x hx
    rcases List.mem_append.1 hx with hx | hx
    · exact (h.all x hx).2.1
    · obtain rfl : x = _ := by simpa using hx
      refine ⟨?_, ?_, ?_, ?_, fun h => by cases h⟩
      · show (0 : Int) ≤ (a : Int); omega
      · show (a : Int) ≤ 65528; omega
      · show (a : Int) % 8 = 0; omega
      · show (a : Int) + ((s.extract a s.size).size : Int) ≤ 65535; rw [hz]; omega
  · intro x hx
    rcases List.mem_append.1 hx with hx | hx
    · have := (h.all x hx).2.2.2; omega
    · obtain rfl : x = _ := by simpa using hx
      rw [hz2]; exact Int.le_refl _
  · rw [List.flatMap_append, h.cat]
    simp only [List.flatMap_cons, List.flatMap_nil, List.append_nil]
    have hl : s.data.toList.length = s.size := (Lib.size_eq s).symm
    rw [ext_list', show s.data.toList.take s.size = s.data.toList from List.take_of_length_le (by omega), List.take_append_drop]
  · unfold psum
    rw [List.map_append, List.sum_append]
    have := h.sum
    unfold psum at this
    simp only [List.map_cons, List.map_nil, List.sum_cons, List.sum_nil, hz]
    omega

/-- The pieces that came. -/
def sel : List Pc → List Bool → List Pc
  | x :: l, b :: c => if b then x :: sel l c else sel l c
  | _, _ => []
theorem sel_none : ∀ (l : List Pc) (n : Nat), sel l (List.replicate n false) = []
  | [], 0 => rfl
  | [], n + 1 => rfl
  | x :: l, 0 => rfl
  | x :: l, n + 1 => by rw [List.replicate_succ]; exact sel_none l n
theorem sel_sub : ∀ (l : List Pc) (c : List Bool), (sel l c).Sublist l
  | [], [] => List.Sublist.refl _
  | [], _ :: _ => List.Sublist.refl _
  | x :: l, [] => List.nil_sublist _
  | x :: l, true :: c => (sel_sub l c).cons_cons x
  | x :: l, false :: c => (sel_sub l c).cons x
theorem sel_all : ∀ (l : List Pc) (c : List Bool), c.length = l.length → (∀ b ∈ c, b = true) → sel l c = l
  | [], [], _, _ => rfl
  | [], _ :: _, h, _ => by cases h
  | x :: l, [], h, _ => by cases h
  | x :: l, b :: c, h, hb => by
    have : b = true := hb b (by simp)
    subst this
    show x :: sel l c = x :: l
    rw [sel_all l c (by simpa using h) (fun b' hb' => hb b' (by simp [hb']))]
theorem sel_set : ∀ (l : List Pc) (c : List Bool) (k : Nat) (hk : k < l.length), c.length = l.length → c[k]? = some false → (sel l (c.set k true)).Perm (l[k] :: sel l c)
  | [], _, k, hk, _, _ => absurd hk (Nat.not_lt_zero _)
  | x :: l, [], k, _, h, _ => by cases h
  | x :: l, b :: c, 0, _, _, hc => by
    have : b = false := by simpa using hc
    subst this
    exact List.Perm.refl _
  | x :: l, b :: c, k + 1, hk, h, hc => by
    have ih := sel_set l c k (by simpa using hk) (by simpa using h) (by simpa using hc)
    cases b with
    | true =>
      show (x :: sel l (c.set k true)).Perm (l[k]'(by simpa using hk) :: x :: sel l c)
      exact (ih.cons x).trans (List.Perm.swap _ _ _)
    | false => exact ih
theorem sel_mem : ∀ (l : List Pc) (c : List Bool) (k : Nat) (hk : k < l.length), c[k]? = some true → l[k] ∈ sel l c
  | [], _, k, hk, _ => absurd hk (Nat.not_lt_zero _)
  | x :: l, [], k, _, h => by simp at h
  | x :: l, b :: c, 0, _, hc => by
    have : b = true := by simpa using hc
    subst this
    exact List.mem_cons_self
  | x :: l, b :: c, k + 1, hk, hc => by
    have ih := sel_mem l c k (by simpa using hk) (by simpa using hc)
    cases b with
    | true => exact List.mem_cons_of_mem x ih
    | false => exact ih
theorem sel_not : ∀ (l : List Pc) (c : List Bool) (k : Nat) (hk : k < l.length), l.Pairwise (fun x y => x.frm < y.frm) → c[k]? = some false → l[k] ∉ sel l c
  | [], _, k, hk, _, _ => absurd hk (Nat.not_lt_zero _)
  | x :: l, [], k, _, _, h => by simp at h
  | x :: l, b :: c, 0, _, hp, hc => by
    have : b = false := by simpa using hc
    subst this
    intro hm
    have := (List.pairwise_cons.1 hp).1 _ ((sel_sub l c).subset hm)
    exact Int.lt_irrefl _ this
  | x :: l, b :: c, k + 1, hk, hp, hc => by
    have hp' := List.pairwise_cons.1 hp
    have ih := sel_not l c k (by simpa using hk) hp'.2 (by simpa using hc)
    have hne : l[k]'(by simpa using hk) ≠ x := fun e => by
      have := hp'.1 _ (List.getElem_mem (by simpa using hk : k < l.length))
      rw [e] at this
      exact Int.lt_irrefl _ this
    cases b with
    | true =>
      intro hm
      rcases List.mem_cons.1 hm with h | h
      · exact hne h
      · exact ih h
    | false => exact ih
theorem psum_sel_le : ∀ (l : List Pc) (c : List Bool), psum (sel l c) ≤ psum l
  | [], [] => Nat.le_refl _
  | [], _ :: _ => Nat.le_refl _
  | x :: l, [] => Nat.zero_le _
  | x :: l, true :: c => by
    have := psum_sel_le l c
    unfold psum at *
    show ((x :: sel l c).map (·.data.size)).sum ≤ _
    simp only [List.map_cons, List.sum_cons]; omega
  | x :: l, false :: c => by
    have := psum_sel_le l c
    unfold psum at *
    show ((sel l c).map (·.data.size)).sum ≤ _
    simp only [List.map_cons, List.sum_cons]; omega
theorem psum_sel_lt : ∀ (l : List Pc) (c : List Bool) (k : Nat) (hk : k < l.length), c[k]? = some false → 0 < l[k].data.size → psum (sel l c) < psum l
  | [], _, k, hk, _, _ => absurd hk (Nat.not_lt_zero _)
  | x :: l, [], k, _, h, _ => by simp at h
  | x :: l, b :: c, 0, _, hc, h0 => by
    have : b = false := by simpa using hc
    subst this
    have := psum_sel_le l c
    have h0 : 0 < x.data.size := h0
    unfold psum at *
    show ((sel l c).map (·.data.size)).sum < _
    simp only [List.map_cons, List.sum_cons]; omega
  | x :: l, b :: c, k + 1, hk, hc, h0 => by
    have ih := psum_sel_lt l c k (by simpa using hk) (by simpa using hc) h0
    unfold psum at *
    cases b with
    | true =>
      show ((x :: sel l c).map (·.data.size)).sum < _
      simp only [List.map_cons, List.sum_cons]; omega
    | false =>
      show ((sel l c).map (·.data.size)).sum < _
      simp only [List.map_cons, List.sum_cons]; omega
theorem psum_perm {l m : List Pc} (h : l.Perm m) : psum l = psum m := by
  unfold psum
  induction h with
  | nil => rfl
  | cons x _ ih => simp only [List.map_cons, List.sum_cons, ih]
  | swap x y l => simp only [List.map_cons, List.sum_cons]; omega
  | trans _ _ ih1 ih2 => exact ih1.trans ih2

theorem sumTo_all (d : Array Pc) : sumTo d d.size = psum d.toList := by
  unfold sumTo psum; rw [List.take_of_length_le (by simp)]
theorem catTo_all (d : Array Pc) : catTo d d.size = d.toList.flatMap (·.data.data.toList) := by
  unfold catTo; rw [List.take_of_length_le (by simp)]

/-- What stands in the body behind some pieces. -/
structure Came (s : ByteArray) (M : List Pc) (c : List Bool) (d : Array Pc) (e : Int) : Prop where
  len : c.length = M.length
  good : Good d e
  perm : d.toList.Perm (sel M c)
  stop : e = if c[M.length - 1]? = some true then (s.size : Int) else -1

theorem Came.start {s : ByteArray} {M : List Pc} (h : Cuts s M) : Came s M (List.replicate M.length false) #[] (-1) := by
  refine ⟨by simp, Good.nil, by rw [sel_none], ?_⟩
  rw [if_neg]
  intro hc
  by_cases h : M.length - 1 < M.length
  · rw [List.getElem?_replicate, if_pos h] at hc; cases hc
  · rw [List.getElem?_eq_none (by simp; omega)] at hc; cases hc

theorem ovl_of_apart {p x : Pc} (hp : p.Ok) (hx : x.Ok) (h : x.to_ ≤ p.frm ∨ p.to_ ≤ x.frm) : ovl p x = false := by
  have h1 := hp.len; have h2 := hp.lo; have h3 := hx.len; have h4 := hx.lo
  have e1 : IntKind.i64.wrap (p.frm + (p.data.size : Int)) = p.frm + (p.data.size : Int) := IntWalk.i64_in _ (by omega)
  have e2 : IntKind.i64.wrap (x.frm + (x.data.size : Int)) = x.frm + (x.data.size : Int) := IntWalk.i64_in _ (by omega)
  unfold ovl
  rw [e1, e2, decide_eq_false_iff_not]
  unfold Pc.to_ at h
  omega
theorem shapeN_of_ok {p : Pc} (h : p.Ok) : shapeN p = 0 := by
  have h1 := h.lo; have h2 := h.hi; have h3 := h.unit; have h4 := h.len
  refine shapeN_ok (by simp only [not_or]; omega) fun hm => ?_
  have := h.mid hm.1
  omega

theorem came_step {s : ByteArray} {M : List Pc} {c : List Bool} {d d' : Array Pc} {e e' r : Int} (hC : Cuts s M) (h : Came s M c d e) {k : Nat} (hk : k < M.length) (hs : AddStep d e M[k] r d' e') :
    r = 0 ∧ Came s M (c.set k true) d' e' := by
  have hgood := good_step h.good hs
  have hok := hC.ok _ (List.getElem_mem hk)
  have hc : k < c.length := by rw [h.len]; exact hk
  unfold AddStep at hs
  rw [if_neg (by rw [shapeN_of_ok hok]; simp)] at hs
  cases hb : c[k] with
  | true =>
    have hck : c[k]? = some true := by rw [List.getElem?_eq_getElem hc, hb]
    have hm : M[k] ∈ d.toList := h.perm.mem_iff.2 (sel_mem M c k hk hck)
    rw [if_pos (List.any_eq_true.2 ⟨_, hm, (eqP_iff _ _).2 rfl⟩)] at hs
    obtain ⟨hr, rfl, rfl⟩ := hs
    have hset : c.set k true = c := by
      refine List.ext_getElem? fun i => ?_
      rw [List.getElem?_set]
      split
      · rename_i hki; subst hki; first | (rw [if_pos hc, hck]; done) | rw [hck]
      · rfl
    rw [hset]
    exact ⟨hr, h⟩
  | false =>
    have hck : c[k]? = some false := by rw [List.getElem?_eq_getElem hc, hb]
    have hnot : M[k] ∉ d.toList := fun hm => sel_not M c k hk hC.lt hck (h.perm.mem_iff.1 hm)
    have hsubM : ∀ x ∈ d.toList, x ∈ M := fun x hx => (sel_sub M c).subset (h.perm.mem_iff.1 hx)
    rw [if_neg (fun ha => by
      obtain ⟨x, hx, he⟩ := List.any_eq_true.1 ha
      rw [eqP_iff] at he
      rw [← he] at hx
      exact hnot hx)] at hs
    rw [if_neg (fun ha => by
      obtain ⟨x, hx, ho⟩ := List.any_eq_true.1 ha
      obtain ⟨j, hj, rfl⟩ := List.getElem_of_mem (hsubM x hx)
      have hpw := List.pairwise_iff_getElem.1 hC.pw
      have : ovl M[k] M[j] = false := ovl_of_apart hok (hC.ok _ (List.getElem_mem hj)) (by
        rcases Nat.lt_trichotomy j k with h1 | h1 | h1
        · exact .inl (hpw j k hj hk h1)
        · subst h1; exact absurd hx hnot
        · exact .inr (hpw k j hk hj h1))
      rw [this] at ho; cases ho)] at hs
    obtain ⟨L, z, hM, hz1, hz2, hz3⟩ := hC.last
    have hlast : M[k].more = false → k = M.length - 1 := fun hm => by
      subst hM
      by_cases hkl : k < L.length
      · rw [List.getElem_append_left hkl] at hm
        have := (hz3 _ (List.getElem_mem hkl)).1
        rw [this] at hm; cases hm
      · simp at hk ⊢; omega
    have hlast2 : k = M.length - 1 → M[k] = z := fun hkm => by
      subst hM
      have : k = L.length := by simp at hkm; omega
      subst this
      simp
    have hle := hC.le _ (List.getElem_mem hk)
    have hends : endsB d e M[k] = false := by
      unfold endsB
      by_cases hm : M[k].more = true
      · rw [if_pos hm]
        have he := h.stop
        by_cases h0 : 0 ≤ e
        · have : e = (s.size : Int) := by rw [he] at h0 ⊢; split at h0 <;> simp_all
          rw [decide_eq_false (show ¬ e < M[k].to_ by omega), Bool.and_false]
        · rw [decide_eq_false h0, Bool.false_and]
      · rw [if_neg hm]
        have hkl := hlast (by simpa using hm)
        have he := h.stop
        rw [← hkl, hck, if_neg (by simp)] at he
        have hz := hlast2 hkl
        have hll : lastTo d d.size ≤ M[k].to_ := by
          rw [hz, hz2]
          have hgen : ∀ i, i ≤ d.size → lastTo d i ≤ (s.size : Int) := by
            intro i
            induction i with
            | zero => intro _; show (0 : Int) ≤ _; omega
            | succ i ih =>
              intro hi
              rw [lastTo_succ d hi]
              have := ih (by omega)
              have := hC.le _ (hsubM _ (list_get d (show i < d.size by omega)))
              omega
          exact hgen _ (Nat.le_refl _)
        rw [decide_eq_false (show ¬ 0 ≤ e by omega), decide_eq_false (show ¬ M[k].to_ < lastTo d d.size by omega), Bool.or_false]
    rw [if_neg (by rw [hends]; simp)] at hs
    obtain ⟨hr, he', hMg⟩ := hs
    obtain ⟨hperm, _⟩ := merged_perm (by rw [Array.size_push]) hMg
    rw [Array.toList_push] at hperm
    refine ⟨hr, by rw [List.length_set]; exact h.len, hgood, ?_, ?_⟩
    · exact (hperm.trans ((List.perm_append_comm).trans (h.perm.cons M[k]))).trans (sel_set M c k hk h.len hck).symm
    · rw [he', List.getElem?_set]
      by_cases hkl : k = M.length - 1
      · rw [if_pos hkl, if_pos hc, if_pos rfl]
        have hz := hlast2 hkl
        rw [hz, if_neg (by rw [hz1]; simp), hz2]
      · rw [if_neg hkl]
        have hm : M[k].more = true := by
          cases hm : M[k].more with
          | true => rfl
          | false => exact absurd (hlast hm) hkl
        rw [if_pos hm]
        exact h.stop

theorem hsum_pos {l : List (Int × Int)} {t : Int} (h : HOk l t) (hl : l ≠ []) : 0 < hsum l := by
  have h1 := hsum_take_le h 1 l.length (List.length_pos_iff.2 hl) (Nat.le_refl _)
  rw [List.take_length, hsum_take_succ l (List.length_pos_iff.2 hl)] at h1
  have h2 := (h 0 (List.length_pos_iff.2 hl)).1
  have h3 : hsum (l.take 0) = 0 := rfl
  omega

theorem came_all {s : ByteArray} {M : List Pc} {c : List Bool} {d : Array Pc} {e : Int} (hC : Cuts s M) (h : Came s M c d e) (ha : ∀ b ∈ c, b = true) :
    0 ≤ e ∧ holesOf d e = [] ∧ catTo d d.size = s.data.toList := by
  have hsel := sel_all M c h.len ha
  have hp : d.toList.Perm M := by rw [← hsel]; exact h.perm
  have hdl := sorted_unique h.good.sorted hp hC.lt
  obtain ⟨L, z, hM, _⟩ := hC.last
  have hM0 : 0 < M.length := by rw [hM]; simp
  have hc : c[M.length - 1]? = some true := by
    have hl : M.length - 1 < c.length := by rw [h.len]; omega
    rw [List.getElem?_eq_getElem hl, ha _ (List.getElem_mem hl)]
  have he := h.stop
  rw [if_pos hc] at he
  obtain ⟨h1, h2⟩ := holes_good h.good
  have ht : topOf e = e := if_pos (by omega)
  rw [sumTo_all, hdl, hC.sum, ht] at h2
  refine ⟨by omega, ?_, by rw [catTo_all, hdl]; exact hC.cat⟩
  cases hh : holesOf d e with
  | nil => rfl
  | cons x l =>
    have := hsum_pos h1 (by rw [hh]; simp)
    omega

theorem came_some {s : ByteArray} {M : List Pc} {c : List Bool} {d : Array Pc} {e : Int} (hC : Cuts s M) (h : Came s M c d e) {k : Nat} (hk : k < M.length) (hf : c[k]? = some false) :
    e < 0 ∨ (0 ≤ e ∧ holesOf d e ≠ []) := by
  by_cases hc : c[M.length - 1]? = some true
  · have he := h.stop
    rw [if_pos hc] at he
    refine .inr ⟨by omega, fun hh => ?_⟩
    obtain ⟨L, z, hM, _, _, hz3⟩ := hC.last
    have hkL : k < L.length := by
      have : k ≠ M.length - 1 := fun e => by rw [e] at hf; rw [hf] at hc; simp at hc
      subst hM
      simp at hk this; omega
    have h0 : 0 < M[k].data.size := by
      subst hM
      rw [List.getElem_append_left hkL]
      exact (hz3 _ (List.getElem_mem hkL)).2
    obtain ⟨h1, h2⟩ := holes_good h.good
    have ht : topOf e = e := if_pos (by omega)
    rw [hh, sumTo_all, psum_perm h.perm, ht] at h2
    have := psum_sel_lt M c k hk hf h0
    rw [hC.sum] at this
    have h3 : hsum [] = 0 := rfl
    omega
  · have he := h.stop
    rw [if_neg hc] at he
    exact .inl (by omega)

end Go.Proofs.Ytcmgfmpmapnckaa
