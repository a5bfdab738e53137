/- The law AlarmTops: what its loops hold, in plain words. -/
import Derived.Test.YtcmgfmpmapnckaaAg
import Derived.ChangeKeysEq
import Derived.Deep.CutBlock
namespace Go.Proofs.Ytcmgfmpmapnckaa
open Go.Shelf Go.RowKit Go.Lib Go.Sort
set_option linter.unusedVariables false
set_option linter.unusedSimpArgs false

theorem grps_inj {G : List Gr} (hG : Grps G) : ∀ a b (ha : a < G.length) (hb : b < G.length), G[a].key = G[b].key → a = b := by
  intro a b ha hb hab
  have hp := List.pairwise_iff_getElem.1 hG.apart
  rcases Nat.lt_trichotomy a b with h | h | h
  · exact absurd hab (hp a b ha hb h)
  · exact h
  · exact absurd hab.symm (hp b a hb ha h)

theorem own_lenA {w : World} {B : Nat} {T : TypeId} {k : Nat} {v : Value} {n : Nat} {xs : List Value} (h : w.ownsRow B T k v n xs) : ∃ A cap, v = .slice A n cap := by
  rcases h.2 with ⟨rfl, rfl⟩ | ⟨g, cap, cur, rfl, _⟩
  · exact ⟨_, _, rfl⟩
  · exact ⟨_, _, rfl⟩

/-- What is left of the counts when so many have been picked. -/
def leftL (G T : List Gr) (i : Nat) : List Int := G.map fun g => if g ∈ T.take i then 0 else g.many
theorem leftL_len (G T : List Gr) (i : Nat) : (leftL G T i).length = G.length := List.length_map _
theorem leftL_zero (G T : List Gr) : leftL G T 0 = G.map (·.many) := by unfold leftL; simp
theorem leftL_get (G T : List Gr) (i : Nat) {k : Nat} (hk : k < G.length) : (leftL G T i)[k]! = if G[k] ∈ T.take i then 0 else G[k].many := by
  rw [getElem!_pos (leftL G T i) k (by rw [leftL_len]; exact hk)]
  simp [leftL]
theorem sorted_len {G T : List Gr} (hT : Sorted G T) : T.length = G.length := hT.perm.length_eq
theorem sorted_new {G T : List Gr} (hG : Grps G) (hT : Sorted G T) {i : Nat} (hi : i < T.length) : T[i] ∉ T.take i := by
  have hnd : T.Pairwise (fun x y => x.key ≠ y.key) := (hT.perm.pairwise_iff (fun h => h.symm)).2 hG.apart
  intro hm
  obtain ⟨k, hk, hke⟩ := List.getElem_of_mem hm
  rw [List.getElem_take] at hke
  have hk' : k < i := by simp at hk; omega
  have := List.pairwise_iff_getElem.1 hnd k i (by omega) hi hk'
  rw [hke] at this
  exact this rfl
theorem leftL_set {G T : List Gr} (hG : Grps G) {i b : Nat} (hi : i < T.length) (hb : b < G.length) (he : T[i] = G[b]) : (leftL G T i).set b 0 = leftL G T (i + 1) := by
  refine List.ext_getElem (by simp [leftL]) fun j h1 h2 => ?_
  have hj : j < G.length := by simpa [leftL] using h2
  rw [List.getElem_set]
  simp only [leftL, List.getElem_map]
  have hmem : ∀ x, x ∈ T.take (i + 1) ↔ x ∈ T.take i ∨ x = T[i] := fun x => by
    rw [List.take_succ_eq_append_getElem hi, List.mem_append, List.mem_singleton]
  by_cases hbj : b = j
  · subst hbj
    rw [if_pos rfl, if_pos ((hmem _).2 (.inr he.symm))]
  · rw [if_neg hbj]
    have hne : G[j] ≠ T[i] := by
      rw [he]
      intro h
      exact hbj (grps_inj hG b j hb hj (by rw [h]))
    by_cases hm : G[j] ∈ T.take i
    · rw [if_pos hm, if_pos ((hmem _).2 (.inl hm))]
    · rw [if_neg hm, if_neg (fun h => ((hmem _).1 h).elim hm hne)]

/-- The best place so far. -/
def Best (L : List Int) (k : Nat) (s : Int) : Prop := (s = -1 ∧ ∀ j, j < k → L[j]! ≤ 0) ∨ ∃ c : Nat, s = (c : Int) ∧ c < k ∧ 0 < L[c]! ∧ ∀ j, j < k → L[j]! < L[c]! ∨ (L[j]! = L[c]! ∧ c ≤ j)
theorem Best.start (L : List Int) : Best L 0 (-1) := .inl ⟨rfl, fun j hj => absurd hj (Nat.not_lt_zero _)⟩
theorem Best.low {L : List Int} {k : Nat} {s : Int} (h : Best L k s) (h0 : L[k]! ≤ 0) : Best L (k + 1) s := by
  rcases h with ⟨rfl, h⟩ | ⟨c, rfl, hc, hp, h⟩
  · refine .inl ⟨rfl, fun j hj => ?_⟩
    by_cases e : j < k
    · exact h j e
    · obtain rfl : j = k := by omega
      exact h0
  · refine .inr ⟨c, rfl, by omega, hp, fun j hj => ?_⟩
    by_cases e : j < k
    · exact h j e
    · obtain rfl : j = k := by omega
      exact .inl (by omega)
theorem Best.first {L : List Int} {k : Nat} (h : Best L k (-1)) (h0 : 0 < L[k]!) : Best L (k + 1) (k : Int) := by
  rcases h with ⟨_, h⟩ | ⟨c, hc, _⟩
  · refine .inr ⟨k, rfl, by omega, h0, fun j hj => ?_⟩
    by_cases e : j < k
    · have := h j e; exact .inl (by omega)
    · obtain rfl : j = k := by omega
      exact .inr ⟨rfl, Nat.le_refl _⟩
  · omega
theorem Best.more {L : List Int} {k c : Nat} (h : Best L k (c : Int)) (h0 : L[c]! < L[k]!) : Best L (k + 1) (k : Int) := by
  rcases h with ⟨hc, _⟩ | ⟨c', hc, hlt, hp, h⟩
  · omega
  · obtain rfl : c = c' := by omega
    refine .inr ⟨k, rfl, by omega, by omega, fun j hj => ?_⟩
    by_cases e : j < k
    · rcases h j e with h | ⟨h, _⟩ <;> exact .inl (by omega)
    · obtain rfl : j = k := by omega
      exact .inr ⟨rfl, Nat.le_refl _⟩
theorem Best.less {L : List Int} {k c : Nat} (h : Best L k (c : Int)) (h0 : L[k]! ≤ L[c]!) : Best L (k + 1) (c : Int) := by
  rcases h with ⟨hc, _⟩ | ⟨c', hc, hlt, hp, h⟩
  · omega
  · obtain rfl : c = c' := by omega
    refine .inr ⟨c, rfl, by omega, hp, fun j hj => ?_⟩
    by_cases e : j < k
    · exact h j e
    · obtain rfl : j = k := by omega
      by_cases e2 : L[j]! = L[c]!
      · exact .inr ⟨e2, by omega⟩
      · exact .inl (by omega)
theorem Best.cases {L : List Int} {k : Nat} {s : Int} (h : Best L k s) : s = -1 ∨ ∃ c : Nat, s = (c : Int) ∧ c < k := by
  rcases h with ⟨rfl, _⟩ | ⟨c, rfl, hc, _⟩
  · exact .inl rfl
  · exact .inr ⟨c, rfl, hc⟩
theorem best_picked {G T : List Gr} (hG : Grps G) (hT : Sorted G T) {i : Nat} (hi : i < T.length) {s : Int} (h : Best (leftL G T i) G.length s) :
    ∃ c : Nat, ∃ hc : c < G.length, s = (c : Int) ∧ T[i] = G[c] ∧ (leftL G T i)[c]! = G[c].many := by
  rcases h with ⟨rfl, h⟩ | ⟨c, rfl, hc, hp, h⟩
  · exfalso
    obtain ⟨q, hq, hqe⟩ := List.getElem_of_mem (hT.perm.mem_iff.1 (List.getElem_mem hi))
    have h1 := h q hq
    rw [leftL_get G T i hq, hqe, if_neg (sorted_new hG hT hi)] at h1
    have := hG.pos T[i] (hT.perm.mem_iff.1 (List.getElem_mem hi))
    omega
  · have hcn : G[c] ∉ T.take i := by
      intro hm
      rw [leftL_get G T i hc, if_pos hm] at hp
      omega
    have hcl : (leftL G T i)[c]! = G[c].many := by rw [leftL_get G T i hc, if_neg hcn]
    refine ⟨c, hc, rfl, picked hG hT hi hc hcn fun j hj hjn => ?_, hcl⟩
    have := h j hj
    rw [hcl, leftL_get G T i hj, if_neg hjn] at this
    exact this

/-- The first lines and the counts of the groups, in rows of their own. -/
structure FmAt (B : Nat) (b : Int) (D : Nat → Ln) (i : Nat) (fv mv : Value) (Fs : List Nat) (W : World) : Prop where
  keys : Fs.map (fun f => keyBy b (D f).key) = (grpsTo b D i).map (·.key)
  lt : ∀ f ∈ Fs, f < i
  fr : W.ownsRow B 3 1 fv Fs.length (Fs.map fun (f : Nat) => Value.int .i64 (f : Int))
  mr : W.ownsRow B 3 1 mv Fs.length ((grpsTo b D i).map fun g => Value.int .i64 g.many)
  ne : fv.ownBlock = none ∨ fv.ownBlock ≠ mv.ownBlock
theorem FmAt.nil (B : Nat) (b : Int) (D : Nat → Ln) (W : World) : FmAt B b D 0 (.slice none 0 0) (.slice none 0 0) [] W :=
  ⟨rfl, fun f hf => (by cases hf), World.ownsRow_nil _ _ _ _, World.ownsRow_nil _ _ _ _, .inl rfl⟩
section
variable {B : Nat} {b : Int} {D : Nat → Ln} {i : Nat} {fv mv : Value} {Fs : List Nat} {W W' : World}
theorem FmAt.len (h : FmAt B b D i fv mv Fs W) : Fs.length = (grpsTo b D i).length := by
  have := congrArg List.length h.keys
  simpa using this
theorem FmAt.below (h : FmAt B b D i fv mv Fs W) (hb : Below W.heap.size W W') : FmAt B b D i fv mv Fs W' :=
  ⟨h.keys, h.lt, row_below h.fr hb, row_below h.mr hb, h.ne⟩
theorem FmAt.key (h : FmAt B b D i fv mv Fs W) {k : Nat} (hk : k < Fs.length) : keyBy b (D Fs[k]!).key = ((grpsTo b D i)[k]!).key := by
  have hk2 : k < (grpsTo b D i).length := by rw [← h.len]; exact hk
  have := congrArg (fun l => l[k]?) h.keys
  simp only [List.getElem?_map, List.getElem?_eq_getElem hk, List.getElem?_eq_getElem hk2, Option.map_some, Option.some.injEq] at this
  rw [getElem!_pos Fs k hk, getElem!_pos (grpsTo b D i) k hk2]
  exact this
theorem FmAt.first (h : FmAt B b D i fv mv Fs W) {k : Nat} (hk : k < Fs.length) : Fs[k]! < i := by
  rw [getElem!_pos Fs k hk]; exact h.lt _ (List.getElem_mem hk)
theorem FmAt.fcell (h : FmAt B b D i fv mv Fs W) {k : Nat} (hk : k < Fs.length) :
    ∃ g cap, fv = .slice (some ⟨g, 0, none⟩) Fs.length cap ∧ B ≤ g ∧ g < W.heap.size ∧ W.cell? ⟨g, k, none⟩ = some (.int .i64 (Fs[k]! : Int)) := by
  obtain ⟨g, cap, rfl, hB, hg⟩ := h.fr.form (by omega)
  refine ⟨g, cap, rfl, hB, hg, ?_⟩
  rw [World.ownsRow.cellAt (h := h.fr) k (by omega), List.getElem?_map, List.getElem?_eq_getElem hk, getElem!_pos Fs k hk]; rfl
theorem FmAt.mcell (h : FmAt B b D i fv mv Fs W) {k : Nat} (hk : k < Fs.length) :
    ∃ g cap, mv = .slice (some ⟨g, 0, none⟩) Fs.length cap ∧ B ≤ g ∧ g < W.heap.size ∧ W.cell? ⟨g, k, none⟩ = some (.int .i64 ((grpsTo b D i)[k]!).many) ∧ W.frozen? ⟨g, k, none⟩ = false := by
  obtain ⟨g, cap, rfl, hB, hg⟩ := h.mr.form (by omega)
  have hk2 : k < (grpsTo b D i).length := by rw [← h.len]; exact hk
  refine ⟨g, cap, rfl, hB, hg, ?_, World.ownsRow.frozenAt (h := h.mr) k⟩
  rw [World.ownsRow.cellAt (h := h.mr) k (by omega), List.getElem?_map, List.getElem?_eq_getElem hk2, getElem!_pos (grpsTo b D i) k hk2]; rfl

/-- Which group a line is of, as far as so many. -/
def AtTo (G : List Gr) (x : Ky) (k : Nat) (s : Int) : Prop := (s = -1 ∧ ∀ j, j < k → (G[j]!).key ≠ x) ∨ ∃ c : Nat, s = (c : Int) ∧ c < k ∧ (G[c]!).key = x
theorem AtTo.start (G : List Gr) (x : Ky) : AtTo G x 0 (-1) := .inl ⟨rfl, fun j hj => absurd hj (Nat.not_lt_zero _)⟩
theorem AtTo.hit {G : List Gr} {x : Ky} {k : Nat} (h : (G[k]!).key = x) : AtTo G x (k + 1) (k : Int) := .inr ⟨k, rfl, by omega, h⟩
theorem AtTo.miss {G : List Gr} {x : Ky} {k : Nat} {s : Int} (h : AtTo G x k s) (h0 : (G[k]!).key ≠ x) : AtTo G x (k + 1) s := by
  rcases h with ⟨rfl, h⟩ | ⟨c, rfl, hc, he⟩
  · refine .inl ⟨rfl, fun j hj => ?_⟩
    by_cases e : j < k
    · exact h j e
    · obtain rfl : j = k := by omega
      exact h0
  · exact .inr ⟨c, rfl, by omega, he⟩

theorem FmAt.bump (h : FmAt B b D i fv mv Fs W) {c g cap : Nat} (hmv : mv = .slice (some ⟨g, 0, none⟩) Fs.length cap) (hc : c < Fs.length) (hk : ((grpsTo b D i)[c]!).key = keyBy b (D i).key) :
    FmAt B b D (i + 1) fv mv Fs (W.setCell ⟨g, c, none⟩ (.int .i64 (((grpsTo b D i)[c]!).many + 1))) := by
  have hG := (grpsTo_ok b D i).1
  have hc2 : c < (grpsTo b D i).length := by rw [← h.len]; exact hc
  rw [getElem!_pos _ c hc2] at hk ⊢
  have hb : grpsTo b D (i + 1) = (grpsTo b D i).set c ⟨keyBy b (D i).key, (grpsTo b D i)[c].many + 1⟩ := by
    rw [grpsTo_succ]
    exact bumpG_some _ _ c hc2 hk (fun j hj hjk => by
      have := grps_inj hG j c (by omega) hc2 (by rw [hjk, hk]); omega)
  subst hmv
  have hst := World.ownsRow.stored (h := h.mr) c (.int .i64 ((grpsTo b D i)[c].many + 1))
  refine ⟨?_, fun f hf => by have := h.lt f hf; omega, ?_, ?_, h.ne⟩
  · rw [hb, h.keys, List.map_set]
    refine (List.ext_getElem (by simp) fun j h1 h2 => ?_)
    rw [List.getElem_set]
    split
    · rename_i e
      subst e
      simp [hk]
    · rfl
  · exact h.fr.kept hst.2 (by simpa [Value.ownBlock] using h.ne)
  · rw [hb, List.map_set]
    exact hst.1
theorem FmAt.push (h : FmAt B b D i fv mv Fs W) (hk : ∀ j, j < Fs.length → ((grpsTo b D i)[j]!).key ≠ keyBy b (D i).key) {g1 g2 cap1 cap2 H1 H2 : Nat} {W1 W2 W3 W4 : World}
    (hW : Below W.heap.size W W1) (hH1 : W.heap.size ≤ H1) (hf : W2.ownsRow B 3 1 (.slice (some ⟨g1, 0, none⟩) (Fs.length + 1) cap1) (Fs.length + 1) ((Fs.map fun (f : Nat) => Value.int .i64 (f : Int)) ++ [.int .i64 (i : Int)]))
    (hg1 : W1.grownBy W2 fv.ownBlock) (ho1 : fv.ownBlock = some g1 ∨ g1 = H1) (hl1 : g1 < W2.heap.size) (hW3 : Below W2.heap.size W2 W3) (hH2 : W2.heap.size ≤ H2)
    (hm : W4.ownsRow B 3 1 (.slice (some ⟨g2, 0, none⟩) (Fs.length + 1) cap2) (Fs.length + 1) (((grpsTo b D i).map fun g => Value.int .i64 g.many) ++ [.int .i64 1]))
    (hg2 : W3.grownBy W4 mv.ownBlock) (ho2 : mv.ownBlock = some g2 ∨ g2 = H2) :
    FmAt B b D (i + 1) (.slice (some ⟨g1, 0, none⟩) (Fs.length + 1) cap1) (.slice (some ⟨g2, 0, none⟩) (Fs.length + 1) cap2) (Fs ++ [i]) W4 := by
  have hb : grpsTo b D (i + 1) = grpsTo b D i ++ [⟨keyBy b (D i).key, 1⟩] := by
    rw [grpsTo_succ]
    refine bumpG_none _ _ fun g hg => ?_
    obtain ⟨j, hj, rfl⟩ := List.getElem_of_mem hg
    have := hk j (by rw [h.len]; exact hj)
    rwa [getElem!_pos _ j hj] at this
  have hm1 : ∀ g, mv.ownBlock = some g → g ≠ g1 := by
    intro g hg e
    subst e
    have hlt := (h.mr.lt g hg).2
    rcases ho1 with ho | rfl
    · rcases h.ne with hn | hn
      · rw [hn] at ho; cases ho
      · exact hn (by rw [ho, hg])
    · omega
  have hne : g1 ≠ g2 := by
    rcases ho2 with ho | rfl
    · exact fun e => hm1 g2 ho e.symm
    · omega
  refine ⟨?_, fun f hf' => ?_, ?_, ?_, .inr (by simp [Value.ownBlock, hne])⟩
  · rw [hb, List.map_append, List.map_append, h.keys]; rfl
  · rcases List.mem_append.1 hf' with hf' | hf'
    · have := h.lt f hf'; omega
    · obtain rfl := List.mem_singleton.1 hf'; omega
  · have := (row_below hf hW3).kept hg2 (.inr (by
      simp only [Value.ownBlock]
      intro e
      exact hm1 g1 e.symm rfl))
    rw [List.length_append, List.map_append]
    exact this
  · rw [hb, List.length_append, List.map_append]
    exact hm
end

/-- The rows while the groups are picked. -/
structure PkAt (B : Nat) (G T : List Gr) (i : Nat) (fv mv : Value) (Fs : List Nat) (W : World) : Prop where
  len : Fs.length = G.length
  fr : W.ownsRow B 3 1 fv Fs.length (Fs.map fun (f : Nat) => Value.int .i64 (f : Int))
  mr : W.ownsRow B 3 1 mv Fs.length ((leftL G T i).map fun n => Value.int .i64 n)
  ne : fv.ownBlock = none ∨ fv.ownBlock ≠ mv.ownBlock
section
variable {B : Nat} {G T : List Gr} {i : Nat} {fv mv : Value} {Fs : List Nat} {W W' : World}
theorem FmAt.pick {b : Int} {D : Nat → Ln} {n : Nat} (T : List Gr) (h : FmAt B b D n fv mv Fs W) : PkAt B (grpsTo b D n) T 0 fv mv Fs W :=
  ⟨h.len, h.fr, by rw [leftL_zero, List.map_map]; exact h.mr, h.ne⟩
theorem PkAt.below (h : PkAt B G T i fv mv Fs W) (hb : Below W.heap.size W W') : PkAt B G T i fv mv Fs W' := ⟨h.len, row_below h.fr hb, row_below h.mr hb, h.ne⟩
theorem PkAt.fcell (h : PkAt B G T i fv mv Fs W) {k : Nat} (hk : k < Fs.length) :
    ∃ g cap, fv = .slice (some ⟨g, 0, none⟩) Fs.length cap ∧ B ≤ g ∧ g < W.heap.size ∧ W.cell? ⟨g, k, none⟩ = some (.int .i64 (Fs[k]! : Int)) := by
  obtain ⟨g, cap, rfl, hB, hg⟩ := h.fr.form (by omega)
  refine ⟨g, cap, rfl, hB, hg, ?_⟩
  rw [World.ownsRow.cellAt (h := h.fr) k (by omega), List.getElem?_map, List.getElem?_eq_getElem hk, getElem!_pos Fs k hk]; rfl
theorem PkAt.mcell (h : PkAt B G T i fv mv Fs W) {k : Nat} (hk : k < Fs.length) :
    ∃ g cap, mv = .slice (some ⟨g, 0, none⟩) Fs.length cap ∧ B ≤ g ∧ g < W.heap.size ∧ ∀ j, j < Fs.length → W.cell? ⟨g, j, none⟩ = some (.int .i64 (leftL G T i)[j]!) ∧ W.frozen? ⟨g, j, none⟩ = false := by
  obtain ⟨g, cap, rfl, hB, hg⟩ := h.mr.form (by omega)
  refine ⟨g, cap, rfl, hB, hg, fun j hj => ?_⟩
  have hk2 : j < (leftL G T i).length := by rw [leftL_len, ← h.len]; exact hj
  refine ⟨?_, World.ownsRow.frozenAt (h := h.mr) j⟩
  rw [World.ownsRow.cellAt (h := h.mr) j (by omega), List.getElem?_map, List.getElem?_eq_getElem hk2, getElem!_pos _ j hk2]; rfl
theorem PkAt.pick (h : PkAt B G T i fv mv Fs W) (hG : Grps G) {c g cap : Nat} (hmv : mv = .slice (some ⟨g, 0, none⟩) Fs.length cap) (hi : i < T.length) (hc : c < G.length) (he : T[i] = G[c]) :
    PkAt B G T (i + 1) fv mv Fs (W.setCell ⟨g, c, none⟩ (.int .i64 0)) := by
  subst hmv
  have hst := World.ownsRow.stored (h := h.mr) c (.int .i64 0)
  refine ⟨h.len, h.fr.kept hst.2 (by simpa [Value.ownBlock] using h.ne), ?_, h.ne⟩
  rw [← leftL_set hG hi hc he, List.map_set]
  exact hst.1
end

end Go.Proofs.Ytcmgfmpmapnckaa
