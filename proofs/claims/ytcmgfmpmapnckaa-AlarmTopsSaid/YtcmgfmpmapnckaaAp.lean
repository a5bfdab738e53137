/- Plain laws of AlarmTops: groups by their keys; the stable sort of them is the picking of the greatest, the first one first. -/
import Derived.Test.YtcmgfmpmapnckaaSu
import Derived.Test.YtcmgfmpmapnckaaAa
namespace Go.Proofs.Ytcmgfmpmapnckaa
open Go.Shelf Go.RowKit Go.Lib Go.Sort
set_option linter.unusedVariables false
set_option linter.unusedSimpArgs false

structure Gr where
  key : Ky
  many : Int
deriving DecidableEq
instance : Inhabited Gr := ⟨⟨default, 0⟩⟩
def encG (x : Gr) : List Value := [.int .u32 x.key.src, .int .u32 x.key.dst, .int .i64 x.key.proto, .int .i64 x.key.sport, .int .i64 x.key.dport, .int .i64 x.many]

/-- A line more of a group. -/
def bumpG : List Gr → Ky → List Gr
  | [], x => [⟨x, 1⟩]
  | g :: l, x => if g.key = x then ⟨g.key, g.many + 1⟩ :: l else g :: bumpG l x
def groups : List Ky → List Gr → List Gr
  | [], l => l
  | x :: r, l => groups r (bumpG l x)

theorem bumpG_some : ∀ (l : List Gr) (x : Ky) (k : Nat) (hk : k < l.length), l[k].key = x → (∀ j (hj : j < k), (l[j]'(by omega)).key ≠ x) → bumpG l x = l.set k ⟨x, l[k].many + 1⟩
  | [], _, k, hk, _, _ => absurd hk (Nat.not_lt_zero _)
  | g :: l, x, 0, _, h, _ => by
    have h : g.key = x := h
    rw [bumpG, if_pos h, h]; rfl
  | g :: l, x, k + 1, hk, h, hn => by
    have h0 : g.key ≠ x := hn 0 (by omega)
    rw [bumpG, if_neg h0, bumpG_some l x k (by simpa using hk) h (fun j hj => hn (j + 1) (by omega))]
    rfl
theorem bumpG_none : ∀ (l : List Gr) (x : Ky), (∀ g ∈ l, g.key ≠ x) → bumpG l x = l ++ [⟨x, 1⟩]
  | [], _, _ => rfl
  | g :: l, x, h => by
    rw [bumpG, if_neg (h g (by simp)), bumpG_none l x (fun g' hg' => h g' (by simp [hg']))]
    rfl

/-- Groups of lines: keys apart, one line at least. -/
structure Grps (l : List Gr) : Prop where
  apart : l.Pairwise (fun x y => x.key ≠ y.key)
  pos : ∀ g ∈ l, 1 ≤ g.many
theorem Grps.nil : Grps [] := ⟨List.Pairwise.nil, by simp⟩
theorem bumpG_key : ∀ (l : List Gr) (x : Ky) (g : Gr), g ∈ bumpG l x → g.key = x ∨ ∃ g' ∈ l, g'.key = g.key
  | [], x, g, h => by
    obtain rfl : g = ⟨x, 1⟩ := by simpa [bumpG] using h
    exact .inl rfl
  | a :: l, x, g, h => by
    rw [bumpG] at h
    split at h
    · rename_i ha
      rcases List.mem_cons.1 h with rfl | h
      · exact .inl ha
      · exact .inr ⟨g, by simp [h], rfl⟩
    · rcases List.mem_cons.1 h with rfl | h
      · exact .inr ⟨g, by simp, rfl⟩
      · exact (bumpG_key l x g h).imp id fun ⟨g', h1, h2⟩ => ⟨g', by simp [h1], h2⟩
theorem Grps.bump : ∀ {l : List Gr} (h : Grps l) (x : Ky), Grps (bumpG l x)
  | [], _, x => ⟨by simp [bumpG], by simp [bumpG]⟩
  | a :: l, h, x => by
    have h1 := List.pairwise_cons.1 h.apart
    have h2 : Grps l := ⟨h1.2, fun g hg => h.pos g (by simp [hg])⟩
    rw [bumpG]
    split
    · rename_i ha
      refine ⟨List.pairwise_cons.2 ⟨h1.1, h1.2⟩, fun g hg => ?_⟩
      rcases List.mem_cons.1 hg with rfl | hg
      · have := h.pos a (by simp); show 1 ≤ a.many + 1; omega
      · exact h2.pos g hg
    · rename_i ha
      have ih := Grps.bump h2 x
      refine ⟨List.pairwise_cons.2 ⟨fun g hg => ?_, ih.apart⟩, fun g hg => ?_⟩
      · rcases bumpG_key l x g hg with hk | ⟨g', hg', hk⟩
        · rw [hk]; exact ha
        · rw [← hk]; exact h1.1 g' hg'
      · rcases List.mem_cons.1 hg with rfl | hg
        · exact h.pos g (by simp)
        · exact ih.pos g hg
theorem bumpG_len (l : List Gr) (x : Ky) : (bumpG l x).length ≤ l.length + 1 := by
  induction l with
  | nil => simp [bumpG]
  | cons g l ih => rw [bumpG]; split <;> simp <;> omega
theorem bumpG_many : ∀ (l : List Gr) (x : Ky) (n : Int), (∀ g ∈ l, g.many ≤ n) → 0 ≤ n → ∀ g ∈ bumpG l x, g.many ≤ n + 1
  | [], x, n, _, hn, g, hg => by
    obtain rfl : g = ⟨x, 1⟩ := by simpa [bumpG] using hg
    show (1 : Int) ≤ n + 1; omega
  | a :: l, x, n, h, hn, g, hg => by
    rw [bumpG] at hg
    split at hg
    · rcases List.mem_cons.1 hg with rfl | hg
      · have := h a (by simp); show a.many + 1 ≤ n + 1; omega
      · have := h g (by simp [hg]); omega
    · rcases List.mem_cons.1 hg with rfl | hg
      · have := h g (by simp); omega
      · exact bumpG_many l x n (fun g' hg' => h g' (by simp [hg'])) hn g hg

def cmpJ (a b : Int) : Int := if a < b then -1 else if b < a then 1 else 0
def cfG (x y : Gr) : Int := cmpJ y.many x.many
theorem ltG_true {x y : Gr} : ltOf cfG x y = true ↔ y.many < x.many := by
  unfold ltOf cfG cmpJ; rw [decide_eq_true_iff]; split <;> (try split) <;> omega
theorem ltG_false {x y : Gr} : ltOf cfG x y = false ↔ x.many ≤ y.many := by
  unfold ltOf cfG cmpJ; rw [decide_eq_false_iff_not]; split <;> (try split) <;> omega
theorem swoG : SWO (ltOf cfG) where
  irrefl x := by rw [ltG_false]; omega
  trans x y z h1 h2 := by rw [ltG_true] at *; omega
  ntrans x y z h1 h2 := by rw [ltG_false] at *; omega

/-- T is G, sorted, equals in their old order. -/
structure Sorted (G T : List Gr) : Prop where
  perm : T.Perm G
  desc : ∀ i j (hi : i < j) (hj : j < T.length), T[j].many ≤ (T[i]'(by omega)).many
  keep : ∀ i j (hi : i < j) (hj : j < T.length), T[j].many = (T[i]'(by omega)).many → [T[i]'(by omega), T[j]].Sublist G

theorem merged_sorted {d d' : Array Gr} (h : Merged (ltOf cfG) 0 d.size d d') : Sorted d.toList d'.toList := by
  have hs : d'.size = d.size := h.1.1.1
  have hp := h.1.1.2.2
  have hk := h.1.2
  rw [Array.extract_eq_self_of_le (by omega), Array.extract_eq_self_of_le (by omega)] at hp
  rw [Array.extract_eq_self_of_le (by omega), Array.extract_eq_self_of_le (by omega)] at hk
  refine ⟨hp, fun i j hij hj => ?_, fun i j hij hj he => ?_⟩
  · have hj' : j < d'.size := by simpa using hj
    have := h.2 i j (Nat.zero_le _) hij (by omega)
    rw [ltG_false, getElem!_pos d' j hj', getElem!_pos d' i (by omega)] at this
    simpa using this
  · have hi' : i < d'.toList.length := by omega
    have h1 : [d'.toList[i], d'.toList[j]].Sublist d'.toList := by
      have e1 : d'.toList = d'.toList.take (i + 1) ++ d'.toList.drop (i + 1) := (List.take_append_drop _ _).symm
      have m1 : [d'.toList[i]].Sublist (d'.toList.take (i + 1)) := by
        rw [List.singleton_sublist, List.take_succ_eq_append_getElem hi']; simp
      have m2 : [d'.toList[j]].Sublist (d'.toList.drop (i + 1)) := by
        rw [List.singleton_sublist]
        exact List.mem_iff_getElem.2 ⟨j - (i + 1), by simp at hj ⊢; omega, by rw [List.getElem_drop]; congr 1; omega⟩
      conv => rhs; rw [e1]
      exact m1.append m2
    have h2 := h1.filter (eqv (ltOf cfG) d'.toList[i])
    have f1 : eqv (ltOf cfG) d'.toList[i] d'.toList[i] = true := by
      simp only [eqv, Bool.and_eq_true, Bool.not_eq_true', ltG_false]; omega
    have f2 : eqv (ltOf cfG) d'.toList[i] d'.toList[j] = true := by
      simp only [eqv, Bool.and_eq_true, Bool.not_eq_true', ltG_false]; omega
    simp only [List.filter_cons, f1, f2, if_true, List.filter_nil] at h2
    rw [hk d'.toList[i]] at h2
    exact h2.trans List.filter_sublist

theorem sublist_lt {G : List Gr} (hG : Grps G) {q j : Nat} (hq : q < G.length) (hj : j < G.length) (h : [G[q], G[j]].Sublist G) : q < j := by
  have hR : G.Pairwise (fun x y => ∃ q j : Nat, q < j ∧ G[q]? = some x ∧ G[j]? = some y) := by
    rw [List.pairwise_iff_getElem]
    intro i j hi hj hij
    exact ⟨i, j, hij, List.getElem?_eq_getElem hi, List.getElem?_eq_getElem hj⟩
  have h2 := hR.sublist h
  obtain ⟨q', j', hlt, e1, e2⟩ := (List.pairwise_cons.1 h2).1 G[j] (by simp)
  have hinj : ∀ a b (ha : a < G.length) (hb : b < G.length), G[a] = G[b] → a = b := by
    intro a b ha hb hab
    have hp := List.pairwise_iff_getElem.1 hG.apart
    rcases Nat.lt_trichotomy a b with h | h | h
    · exact absurd (by rw [hab]) (hp a b ha hb h)
    · exact h
    · exact absurd (by rw [hab]) (hp b a hb ha h)
  have hq' : q' < G.length := by
    rcases Nat.lt_or_ge q' G.length with h | h
    · exact h
    · rw [List.getElem?_eq_none h] at e1; cases e1
  have hj' : j' < G.length := by
    rcases Nat.lt_or_ge j' G.length with h | h
    · exact h
    · rw [List.getElem?_eq_none h] at e2; cases e2
  rw [List.getElem?_eq_getElem hq'] at e1
  rw [List.getElem?_eq_getElem hj'] at e2
  have := hinj q' q hq' hq (Option.some.inj e1)
  have := hinj j' j hj' hj (Option.some.inj e2)
  omega

/-- The picked one of those that are left: the greatest, the first of such. -/
theorem picked {G T : List Gr} (hG : Grps G) (hT : Sorted G T) {i b : Nat} (hi : i < T.length) (hb : b < G.length) (hnot : G[b] ∉ T.take i)
    (hbest : ∀ j (hj : j < G.length), G[j] ∉ T.take i → G[j].many < G[b].many ∨ (G[j].many = G[b].many ∧ b ≤ j)) : T[i] = G[b] := by
  obtain ⟨q, hq, hqe⟩ := List.getElem_of_mem (hT.perm.mem_iff.1 (List.getElem_mem hi))
  have hnd : T.Pairwise (fun x y => x.key ≠ y.key) := (hT.perm.pairwise_iff (fun h => h.symm)).2 hG.apart
  have hni : T[i] ∉ T.take i := by
    intro hm
    obtain ⟨k, hk, hke⟩ := List.getElem_of_mem hm
    rw [List.getElem_take] at hke
    have hk' : k < i := by simp at hk; omega
    have := List.pairwise_iff_getElem.1 hnd k i (by omega) hi hk'
    rw [hke] at this
    exact this rfl
  have h1 := hbest q hq (by rw [hqe]; exact hni)
  obtain ⟨p, hp, hpe⟩ := List.getElem_of_mem (hT.perm.mem_iff.2 (List.getElem_mem hb))
  have hpi : i ≤ p := by
    rcases Nat.lt_or_ge p i with h | h
    · exfalso; apply hnot
      rw [← hpe]
      exact List.mem_iff_getElem.2 ⟨p, by simp; omega, by rw [List.getElem_take]⟩
    · exact h
  rcases Nat.lt_or_eq_of_le hpi with h | rfl
  · have hd := hT.desc i p h hp
    rw [hpe, ← hqe] at hd
    rcases h1 with h1 | ⟨h1, h2⟩
    · omega
    · have hk := hT.keep i p h hp (by rw [hpe, ← hqe]; omega)
      rw [hpe, ← hqe] at hk
      have := sublist_lt hG hq hb hk
      omega
  · exact hpe

end Go.Proofs.Ytcmgfmpmapnckaa
