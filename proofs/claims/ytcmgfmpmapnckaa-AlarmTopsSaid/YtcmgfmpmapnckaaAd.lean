/- Walks of package alarm: Top. -/
import Derived.Test.YtcmgfmpmapnckaaAc
import Derived.Test.YtcmgfmpmapnckaaHu
namespace Go.Proofs.Ytcmgfmpmapnckaa
open Go.Shelf Go.RowKit Go.Lib Go.Sort
set_option linter.unusedVariables false
set_option linter.unusedSimpArgs false

def keysTo (b : Int) (D : Nat → Ln) (n : Nat) : List Ky := (List.range n).map fun i => keyBy b (D i).key
theorem keysTo_succ (b : Int) (D : Nat → Ln) (n : Nat) : keysTo b D (n + 1) = keysTo b D n ++ [keyBy b (D n).key] := by
  unfold keysTo; rw [List.range_succ, List.map_append]; rfl
theorem groups_snoc (ks : List Ky) (x : Ky) : ∀ l, groups (ks ++ [x]) l = bumpG (groups ks l) x := by
  induction ks with
  | nil => intro l; rfl
  | cons a ks ih => intro l; exact ih _
def grpsTo (b : Int) (D : Nat → Ln) (n : Nat) : List Gr := groups (keysTo b D n) []
theorem grpsTo_succ (b : Int) (D : Nat → Ln) (n : Nat) : grpsTo b D (n + 1) = bumpG (grpsTo b D n) (keyBy b (D n).key) := by
  unfold grpsTo; rw [keysTo_succ, groups_snoc]
theorem grpsTo_ok (b : Int) (D : Nat → Ln) : ∀ n, Grps (grpsTo b D n) ∧ (grpsTo b D n).length ≤ n ∧ ∀ g ∈ grpsTo b D n, g.many ≤ (n : Int)
  | 0 => ⟨Grps.nil, Nat.le_refl _, fun g hg => by cases hg⟩
  | n + 1 => by
    obtain ⟨h1, h2, h3⟩ := grpsTo_ok b D n
    rw [grpsTo_succ]
    refine ⟨h1.bump _, by have := bumpG_len (grpsTo b D n) (keyBy b (D n).key); omega, fun g hg => ?_⟩
    have := bumpG_many _ _ (n : Int) h3 (by omega) g hg
    omega
theorem keyBy_ok {b : Int} {x : Ky} (h : x.Ok) : (keyBy b x).Ok := by
  have z1 : (Lit.int .u32 0).wf = true := by decide
  have z2 : (Lit.int .i64 0).wf = true := by decide
  unfold keyBy
  split
  · exact ⟨h.src, z1, z2, z2, z2⟩
  split
  · exact ⟨z1, h.dst, z2, z2, z2⟩
  split
  · exact h
  · exact ⟨z1, z1, z2, z2, z2⟩
theorem grpsTo_keys (b : Int) (D : Nat → Ln) : ∀ n, (∀ i, i < n → (D i).key.Ok) → ∀ g ∈ grpsTo b D n, g.key.Ok
  | 0, _, g, hg => by cases hg
  | n + 1, h, g, hg => by
    rw [grpsTo_succ] at hg
    rcases bumpG_key _ _ _ hg with hk | ⟨g', hg', hk⟩
    · rw [hk]; exact keyBy_ok (h n (by omega))
    · rw [← hk]; exact grpsTo_keys b D n (fun i hi => h i (by omega)) g' hg'

theorem topG_out {A : Option Addr} {n cap : Nat} {b most : Int} (w : World) (h : b < 0 ∨ 3 < b) :
    Calls Try.prog 20 #[.slice A n cap, .int .i64 b, .int .i64 most] w fun e w' => e = .returned (.slice none 0 0) ∧ w = w' := by
  have hi := in_any b 0 3 w
  have hd : (decide (0 ≤ b) && decide (b ≤ 3)) = false := by
    rw [Bool.eq_false_iff]; intro hh; rw [Bool.and_eq_true, decide_eq_true_eq, decide_eq_true_eq] at hh; omega
  rw [hd] at hi
  clear hd h
  go_enter Try.func20, Try.ntmps20
  go_wp2_with (go_at_call 59; refine hi.mono ?_; rintro e w1 ⟨rfl, rfl⟩)
  go_ret
  exact ⟨rfl, rfl⟩

/-- On the way through Top: the map and the row say the groups. -/
structure TopSt (B gb mb fb : Nat) (v : Value) (G : List Gr) (W : World) : Prop where
  base : B ≤ mb
  box : W.heap[gb]? = some (.cells #[.func (.func fb) #[] #[]] 130 (0, 0))
  map : PlacesAt W mb (G.map (·.key))
  row : RowAt encG 6 57 B W v G.toArray

theorem own_ne_map {B : Nat} {w : World} {b : Nat} {E : TypeId} {k : Nat} {v : Value} {n m : Nat} {es : Array MapEntry} {xs : List Value} (hown : w.ownsRow B E k v n xs) (hb : w.heap[b]? = some (.map es m)) : v.ownBlock ≠ some b := by
  rcases hown.2 with ⟨rfl, _⟩ | ⟨g, cap, cur, rfl, _, hg, _⟩
  · simp [Value.ownBlock]
  · intro he
    have : g = b := by simpa [Value.ownBlock] using he
    subst this
    rw [hg] at hb
    cases hb
theorem own_ne_box {B : Nat} {w : World} {b : Nat} {T E : TypeId} {k : Nat} {cs : Array Value} {fr : Nat × Nat} {v : Value} {n : Nat} {xs : List Value} (hown : w.ownsRow B E k v n xs) (hb : w.heap[b]? = some (.cells cs T fr)) (hT : E ≠ T) : v.ownBlock ≠ some b := by
  rcases hown.2 with ⟨rfl, _⟩ | ⟨g, cap, cur, rfl, _, hg, _⟩
  · simp [Value.ownBlock]
  · intro he
    have : g = b := by simpa [Value.ownBlock] using he
    subst this
    rw [hg] at hb
    injection hb with hb
    injection hb with _ ht
    exact hT ht
theorem row_foot {α : Type} {enc : α → List Value} {k B : Nat} {T : TypeId} {w w' : World} {v : Value} {d : Array α} (h : RowAt enc k T B w v d) {S : Nat → Prop} (hf : Foot S w w') (hS : ∀ g, v.ownBlock = some g → ¬ S g) : RowAt enc k T B w' v d := by
  refine ⟨h.1, ?_⟩
  rcases h.2 with hn | ⟨g, cap, cur, hv, hB, hg, rest⟩
  · exact .inl hn
  · exact .inr ⟨g, cap, cur, hv, hB, (hf.block g (blk_lt hg) (hS g (by rw [hv]; rfl))).trans hg, rest⟩

section
variable {B gb mb fb : Nat} {v : Value} {G : List Gr} {W W' : World}
theorem TopSt.below (h : TopSt B gb mb fb v G W) (hb : Below W.heap.size W W') : TopSt B gb mb fb v G W' :=
  ⟨h.base, (hb.block gb (blk_lt h.box)).trans h.box, (hb.block mb (blk_lt h.map)).trans h.map, h.row.below hb (Nat.le_refl _)⟩
theorem TopSt.boxNe (h : TopSt B gb mb fb v G W) : v.ownBlock ≠ some gb := own_ne_box h.row h.box (by decide)
theorem TopSt.mapNe (h : TopSt B gb mb fb v G W) : v.ownBlock ≠ some mb := own_ne_map h.row h.map
theorem TopSt.boxMap (h : TopSt B gb mb fb v G W) : gb ≠ mb := fun e => by
  have h1 := h.box
  have h2 := h.map
  unfold PlacesAt at h2
  rw [e, h2] at h1
  cases h1

/-- A key more in the map, a group of none more in the row. -/
theorem TopSt.pushed {g cap : Nat} {x : Ky} {W1 : World} (h : TopSt B gb mb fb v G W) (hm : PlacesAt W1 mb (G.map (·.key) ++ [x])) (hf : Foot (fun k => k = mb) W W1) (hg : W1.grownBy W' v.ownBlock)
    (hown : W'.ownsRow B 57 6 (.slice (some ⟨g, 0, none⟩) (G.length + 1) cap) (G.length + 1) (G.flatMap encG ++ encG ⟨x, 0⟩)) :
    TopSt B gb mb fb (.slice (some ⟨g, 0, none⟩) (G.length + 1) cap) (G ++ [⟨x, 0⟩]) W' := by
  refine ⟨h.base, ?_, ?_, ?_⟩
  · have h1 := blk_lt h.box
    have h2 := hf.size
    exact ((hg.block gb (by omega) (fun e => h.boxNe e.symm)).trans (hf.block gb h1 h.boxMap)).trans h.box
  · unfold PlacesAt
    rw [List.map_append]
    exact (hg.block mb (blk_lt hm) (fun e => h.mapNe e.symm)).trans hm
  · unfold RowAt
    rw [List.size_toArray, List.length_append, List.flatMap_append]
    simpa using hown

theorem flat_set {α : Type} {enc : α → List Value} {k : Nat} (hk : ∀ x, (enc x).length = k) : ∀ (l : List α) (j c : Nat) (y : α) (u : Value), j < l.length → c < k → (∀ x, l[j]? = some x → (enc x).set c u = enc y) →
    (l.flatMap enc).set (j * k + c) u = (l.set j y).flatMap enc
  | [], j, _, _, _, h, _, _ => absurd h (Nat.not_lt_zero _)
  | x :: l, 0, c, y, u, _, hc, h => by
    rw [List.flatMap_cons, Nat.zero_mul, Nat.zero_add, List.set_append_left _ _ (by rw [hk]; exact hc), h x rfl]
    rfl
  | x :: l, j + 1, c, y, u, hj, hc, h => by
    have e : (j + 1) * k + c = (enc x).length + (j * k + c) := by rw [hk, Nat.succ_mul]; omega
    rw [List.flatMap_cons, e, List.set_append_right _ _ (by omega), Nat.add_sub_cancel_left, flat_set hk l j c y u (by simpa using hj) hc (fun z hz => h z hz)]
    rfl

/-- A line more in a group's count. -/
theorem TopSt.counted {g cap n j : Nat} {x : Gr} (h : TopSt B gb mb fb (.slice (some ⟨g, 0, none⟩) n cap) G W) (hj : G[j]? = some x) :
    TopSt B gb mb fb (.slice (some ⟨g, 0, none⟩) n cap) (G.set j ⟨x.key, x.many + 1⟩) (W.setCell ⟨g, j * 6 + 5, none⟩ (.int .i64 (x.many + 1))) := by
  obtain ⟨hjl, hje⟩ := List.getElem?_eq_some_iff.1 hj
  have hn : n = G.toArray.size := by
    rcases h.row.2 with ⟨h', _⟩ | ⟨g', cap', cur, h', _⟩
    · cases h'
    · simp only [Value.slice.injEq] at h'; exact h'.2.1
  refine ⟨h.base, blk_set_ne h.box _ (fun e => h.boxNe (by rw [e]; rfl)), blk_set_ne h.map _ (fun e => h.mapNe (by rw [e]; rfl)) |>.trans ?_, ?_⟩
  · have : (G.set j ⟨x.key, x.many + 1⟩).map (·.key) = G.map (·.key) := by
      rw [List.map_set]
      refine List.ext_getElem? fun i => ?_
      rw [List.getElem?_set]
      split
      · rename_i hi
        subst hi
        simp [hjl, hje]
      · rfl
    rw [this]
  · have hst := (World.ownsRow.stored (h := hn ▸ h.row) (j * 6 + 5) (.int .i64 (x.many + 1))).1
    unfold RowAt
    rw [show (G.set j ⟨x.key, x.many + 1⟩).toArray.size = n by rw [hn]; simp]
    rw [show G.toArray.toList = G from rfl, flat_set encG_len G j 5 ⟨x.key, x.many + 1⟩ _ hjl (by omega) (fun z hz => by rw [hj] at hz; cases hz; rfl)] at hst
    rw [← hn] at hst
    exact hst
theorem TopSt.find (h : TopSt B gb mb fb v G W) (hG : Grps G) (hk : ∀ g ∈ G, g.key.Ok) {x : Ky} (hx : x.Ok) :
    (∃ (j : Nat) (y : Gr), G[j]? = some y ∧ bumpG G x = G.set j ⟨y.key, y.many + 1⟩ ∧ (Instr.lookup 132 (.map (some mb)) (valK x) true).run Try.prog W = .ok (.tuple #[.int .i64 (j : Int), .bool true]) W) ∨
    (bumpG G x = (G ++ [(⟨x, 0⟩ : Gr)]).set G.length ⟨x, 0 + 1⟩ ∧ (Instr.lookup 132 (.map (some mb)) (valK x) true).run Try.prog W = .ok (.tuple #[.int .i64 0, .bool false]) W ∧
      ∃ W1, (Instr.mapUpdate 132 (.map (some mb)) (valK x) (.int .i64 (G.length : Int))).run Try.prog W = .ok () W1 ∧ PlacesAt W1 mb (G.map (·.key) ++ [x]) ∧ Foot (fun k => k = mb) W W1) := by
  have hks : ∀ k ∈ G.map (·.key), k.Ok := fun k hk' => by
    obtain ⟨g, hg, rfl⟩ := List.mem_map.1 hk'
    exact hk g hg
  by_cases hin : ∃ g ∈ G, g.key = x
  · obtain ⟨g, hg, hgx⟩ := hin
    obtain ⟨j, hj, hje⟩ := List.getElem_of_mem hg
    have hp : (G.map (·.key)).Pairwise (· ≠ ·) := List.pairwise_map.2 hG.apart
    refine .inl ⟨j, g, by rw [List.getElem?_eq_getElem hj, hje], ?_, lookup_hit h.map hks hx hp (by rw [List.getElem?_map, List.getElem?_eq_getElem hj, hje]; exact congrArg some hgx)⟩
    have hlt : ∀ i (hi : i < j), (G[i]'(by omega)).key ≠ x := fun i hi he => by
      have := List.pairwise_iff_getElem.1 hG.apart i j (by omega) hj hi
      exact this (by rw [he, hje, hgx])
    rw [bumpG_some G x j hj (by rw [hje]; exact hgx) hlt, hje, hgx]
  · have hne : ∀ g ∈ G, g.key ≠ x := fun g hg e => hin ⟨g, hg, e⟩
    have hn : ∀ k ∈ G.map (·.key), k ≠ x := fun k hk' => by
      obtain ⟨g, hg, rfl⟩ := List.mem_map.1 hk'
      exact hne g hg
    have hu := update_miss h.map hks hx hn
    rw [List.length_map] at hu
    refine .inr ⟨?_, lookup_miss h.map hks hx hn, hu⟩
    rw [bumpG_none G x hne, List.set_append_right _ _ (Nat.le_refl _), Nat.sub_self]
    rfl
theorem TopSt.cellOf {g cap n j : Nat} {x : Gr} (h : TopSt B gb mb fb (.slice (some ⟨g, 0, none⟩) n cap) G W) (hj : G[j]? = some x) :
    W.cell? ⟨g, j * 6 + 5, none⟩ = some (.int .i64 x.many) ∧ W.frozen? ⟨g, j * 6 + 5, none⟩ = false ∧ B ≤ g ∧ g < W.heap.size ∧ j < G.length := by
  obtain ⟨hjl, hje⟩ := List.getElem?_eq_some_iff.1 hj
  obtain ⟨A, cap', hv, _, hcs⟩ := h.row.form encG_len
  simp only [Value.slice.injEq] at hv
  obtain ⟨hA, hn, _⟩ := hv
  obtain ⟨h1, h2, _, h4⟩ := hcs g hA.symm
  refine ⟨?_, World.ownsRow.frozenAt (h := hn ▸ h.row) _, h1, h2, hjl⟩
  rw [h4 j (by simpa using hjl) 5 (by omega)]
  have : G.toArray[j]! = x := by rw [getElem!_pos G.toArray j (by simpa using hjl)]; simpa using hje
  rw [this]; rfl
theorem TopSt.form (h : TopSt B gb mb fb v G W) (h0 : 0 < G.length) : ∃ g cap, v = .slice (some ⟨g, 0, none⟩) G.length cap := by
  obtain ⟨A, cap, hv, hA, _⟩ := h.row.form encG_len
  rw [List.size_toArray] at hv hA
  obtain ⟨g, rfl⟩ := hA.resolve_left (by omega)
  exact ⟨g, cap, hv⟩
theorem TopSt.len (h : TopSt B gb mb fb v G W) : ∃ A cap, v = .slice A G.length cap := by
  obtain ⟨A, cap, hv, hA, _⟩ := h.row.form encG_len
  rw [List.size_toArray] at hv
  exact ⟨A, cap, hv⟩
end

/-- The first so many of sorted groups. -/
def TopPost (b : Int) (D : Nat → Ln) (n : Nat) (most : Int) (w : World) (r : Ending) (w' : World) : Prop :=
  ∃ (T : List Gr) (A : Option Addr) (m : Nat), r = .returned (.slice A m m) ∧ Sorted (grpsTo b D n) T ∧ (m : Int) = min (T.length : Int) (max most 0) ∧ Below w.heap.size w w' ∧
    ∀ k, k < m → ∃ g, A = some ⟨g, 0, none⟩ ∧ w.heap.size ≤ g ∧ g < w'.heap.size ∧ ∀ c, c < 6 → w'.cell? ⟨g, k * 6 + c, none⟩ = (encG T[k]!)[c]?

theorem info57 : (Try.prog.info? 57).map (fun i => (i.zero, i.size, i.bytes)) = some (some (.agg #[.int .u32 0, .int .u32 0, .int .i64 0, .int .i64 0, .int .i64 0, .int .i64 0]), 6, 40) := by kernel_rfl

theorem sortG_nil (w : World) : Calls Try.prog 61 #[.slice none 0 0, .func (.func 62) #[] #[]] w fun e w' => e = .returned (.tuple #[]) ∧ w = w' := by
  have h1 : ∀ W, Calls Try.prog 132 #[.slice none 0 0, .int .i64 0, .int .i64 0, .func (.func 62) #[] #[]] W fun e w' => e = .returned (.tuple #[]) ∧ W = w' := by
    intro W
    go_enter Try.func132, Try.ntmps132
    go_wp2
    refine wp_loop_rounds 1 ?_
    rw [rounds_succ]
    go_wp2
    go_end0
    exact ⟨rfl, rfl⟩
  have h2 : Calls Try.prog 104 #[.slice none 0 0, .int .i64 0, .func (.func 62) #[] #[]] w fun e w' => e = .returned (.tuple #[]) ∧ w = w' := by
    go_enter Try.func104, Try.ntmps104
    go_wp2
    refine wp_loop_rounds 1 ?_
    rw [rounds_succ]
    go_wp2_with (go_at_call 132; refine (h1 _).mono ?_; rintro e w1 ⟨rfl, rfl⟩)
    refine wp_loop_rounds 1 ?_
    rw [rounds_succ]
    go_wp2
    go_end0
    exact ⟨rfl, rfl⟩
  go_enter Try.func61, Try.ntmps61
  go_wp2_with (go_at_call 104; refine h2.mono ?_; rintro e w1 ⟨rfl, rfl⟩)
  go_end0
  exact ⟨rfl, rfl⟩

set_option maxHeartbeats 8000000 in
set_option maxRecDepth 100000 in
theorem topG_any {A : Option Addr} {n cap : Nat} {D : Nat → Ln} {b most : Int} (w : World) (h : ArgL w A n D) (hn : n ≤ 1000) (hb0 : 0 ≤ b) (hb3 : b ≤ 3) :
    Calls Try.prog 20 #[.slice A n cap, .int .i64 b, .int .i64 most] w (TopPost b D n most w) := by
  have hi := in_any b 0 3 w
  have hd : (decide (0 ≤ b) && decide (b ≤ 3)) = true := by rw [decide_eq_true hb0, decide_eq_true hb3]; rfl
  rw [hd] at hi
  have hby := fun W => by_any b W
  have hkey := fun x W => key_any b x W
  have eg : ∀ args w, (callFunc (fnBy b) args).run Try.prog w = .ok (.enter (fnBy b) args) w := by
    unfold fnBy
    split
    · exact enters_of Try.func100 (by kernel_rfl) rfl
    split
    · exact enters_of Try.func101 (by kernel_rfl) rfl
    split
    · exact enters_of Try.func102 (by kernel_rfl) rfl
    · exact enters_of Try.func103 (by kernel_rfl) rfl
  have H := Lib.hid h
  generalize fnBy b = fb at hby hkey eg
  clear hd h
  have hmm := @run_makeMap Try.prog
  have hN := grpsTo_ok b D
  have hK := grpsTo_keys b D
  have HN := Lib.hid hN
  have HK := Lib.hid hK
  clear hN hK
  go_enter Try.func20, Try.ntmps20
  go_wp2_with (first
    | (go_at_call 59; refine hi.mono ?_; rintro e w1 ⟨rfl, rfl⟩)
    | (go_at_call 60; refine (hby _).mono ?_; rintro e w2 ⟨rfl, hf2⟩))
  have hT : TopSt w.heap.size w2.heap.size (w2.heap.size + 1) fb (.slice none 0 0) (grpsTo b D 0) ((w2.alloc (.cells #[.func (.func fb) #[] #[]] 130)).alloc (.map #[] 0)) :=
    ⟨by have := hf2.size; omega, blk_alloc (blk_new _ _) _, blk_new' _ _ _ (by simp), World.ownsRow_nil _ _ _ _⟩
  have hF : Below w.heap.size w ((w2.alloc (.cells #[.func (.func fb) #[] #[]] 130)).alloc (.map #[] 0)) := (hf2.alloc hf2.size _).alloc (by have := hf2.size; simp; omega) _
  have hg0 : w2.heap.size < ((w2.alloc (.cells #[.func (.func fb) #[] #[]] 130)).alloc (.map #[] 0)).heap.size := by simp; omega
  have HT : Aside (TopSt w.heap.size w2.heap.size (w2.heap.size + 1) fb (.slice none 0 0) (grpsTo b D 0) ((w2.alloc (.cells #[.func (.func fb) #[] #[]] 130)).alloc (.map #[] 0))) := hT
  have HF := Lib.hid hF
  clear hT hF hf2 hg0 hmm hi hby
  generalize (w2.alloc (.cells #[.func (.func fb) #[] #[]] 130)).alloc (.map #[] 0) = w3 at HT HF ⊢
  generalize hgb : w2.heap.size = gb at HT HF ⊢
  clear hgb w2
  go_loopg [9, 24] n (fun kx s9 s24 wr => ∃ (i : Nat) (v : Value), s24 = .int .i64 i ∧ v = s9 ∧ i ≤ n ∧ n - i ≤ kx ∧ Aside (TopSt w.heap.size gb (gb + 1) fb v (grpsTo b D i) wr) ∧ Aside (Below w.heap.size w wr))
  case atStart => exact ⟨0, _, rfl, rfl, Nat.zero_le _, Nat.le_refl _, HT, HF⟩
  case round =>
    clear HT HF
    obtain ⟨i, v, rfl, rfl, hi, hkx, HT, HF⟩ := hrel
    by_cases hlt : i < n
    · have hltz : (i : Int) < (n : Int) := by omega
      have hgk : ∀ g ∈ grpsTo b D i, g.key.Ok := HK.out i (fun j hj => by obtain ⟨_, _, _, _, ok⟩ := H.out j (by omega); exact ok)
      have hgn := HN.out i
      obtain ⟨a, rfl, hab, hLA, hok⟩ := H.out i hlt
      obtain ⟨c0, c1, c2, c3, c4, c5, c6⟩ := hLA.keep hab HF.out
      have HS : Aside (grpsTo b D (i + 1) = bumpG (grpsTo b D i) (keyBy b (D i).key)) := grpsTo_succ b D i
      have HX : Aside ((keyBy b (D i).key).Ok) := keyBy_ok hok
      have hs1 := HF.out.size
      have hgl : gb < wr.heap.size := blk_lt HT.out.box
      have hbx : wr.cell? ⟨gb, 0, none⟩ = some (.func (.func fb) #[] #[]) := (blk_cell HT.out.box 0).trans rfl
      have hcall := hkey (D i)
      generalize hG : grpsTo b D i = G at HT HS hgk hgn
      have HG := Lib.hid hG
      have HGK := Lib.hid hgk
      have HGN := Lib.hid hgn
      clear hG hgk hgn
      generalize D i = x at c0 c1 c2 c3 c4 c5 c6 HS HX hcall
      generalize hky : keyBy b x.key = k at HS HX hcall
      unfold valL valK at hcall
      clear hLA hok hkey hky
      go_wp2_with (go_at_fn fb; refine (hcall _).mono ?_; rintro e w4 ⟨rfl, hf4⟩)
      have hb4 : Below w.heap.size w w4 := (HF.out.alloc hs1 _).trans ⟨hf4.os, hf4.tape, hf4.output, hf4.size, fun q hq => hf4.block q (by simp; omega)⟩
      have hb5 : Below w.heap.size w (w4.alloc (.cells #[.int .u32 k.src, .int .u32 k.dst, .int .i64 k.proto, .int .i64 k.sport, .int .i64 k.dport] 48)) := hb4.alloc hb4.size _
      have hT5 : TopSt w.heap.size gb (gb + 1) fb v G (w4.alloc (.cells #[.int .u32 k.src, .int .u32 k.dst, .int .i64 k.proto, .int .i64 k.sport, .int .i64 k.dport] 48)) :=
        ((HT.out.below ((Below.refl _ _).alloc (Nat.le_refl _) _)).below hf4).below ((Below.refl _ _).alloc (Nat.le_refl _) _)
      have hkb : (w4.alloc (.cells #[.int .u32 k.src, .int .u32 k.dst, .int .i64 k.proto, .int .i64 k.sport, .int .i64 k.dport] 48)).heap[w4.heap.size]? = some (.cells #[.int .u32 k.src, .int .u32 k.dst, .int .i64 k.proto, .int .i64 k.sport, .int .i64 k.dport] 48 (0, 0)) := blk_new _ _
      have HB5 := Lib.hid hb5
      have HT5 : Aside (TopSt w.heap.size gb (gb + 1) fb v G (w4.alloc (.cells #[.int .u32 k.src, .int .u32 k.dst, .int .i64 k.proto, .int .i64 k.sport, .int .i64 k.dport] 48))) := hT5
      have HKB := Lib.hid hkb
      have hfind := hT5.find HGN.out.1 HGK.out HX.out
      clear hb4 hb5 hT5 hkb hf4 c0 c1 c2 c3 c4 c5 c6 hcall hbx hgl HT HF hs1
      generalize w4.alloc (.cells #[.int .u32 k.src, .int .u32 k.dst, .int .i64 k.proto, .int .i64 k.sport, .int .i64 k.dport] 48) = w5 at HB5 HT5 HKB hfind ⊢
      generalize w4.heap.size = kb at HKB ⊢
      clear w4
      rcases hfind with ⟨j, y, hj, hbump, hrun⟩ | ⟨hbump, hrun, W1, hrun2, hm, hf⟩
      · have hjl : j < G.length := (List.getElem?_eq_some_iff.1 hj).1
        obtain ⟨g, cap', rfl⟩ := HT5.out.form (by omega)
        obtain ⟨k0, k1, k2, k3, _⟩ := HT5.out.cellOf hj
        have hy : y ∈ G := List.mem_of_getElem? hj
        have hy0 := HGN.out.1.pos y hy
        have hy1 := HGN.out.2.2 y hy
        have HJ := Lib.hid hj
        have HBU := Lib.hid hbump
        have hcnt := HT5.out.counted hj
        have HCNT : Aside _ := hcnt
        have HB6 := Lib.hid (HB5.out.setCell (p := ⟨g, j * 6 + 5, none⟩) k2 (.int .i64 (y.many + 1)))
        clear hj hbump hcnt hy HT5 HB5
        unfold valK at hrun
        go_wp2
        rw [hrun]
        clear hrun
        go_wp2
        go_roundg (n - (i + 1))
        case measure => omega
        case rel => exact ⟨i + 1, _, by go_num, rfl, by omega, Nat.le_refl _, by rw [HS.out, HBU.out]; exact HCNT.out, HB6.out⟩
      · obtain ⟨A5, cap5, rfl⟩ := HT5.out.len
        have hGl := HGN.out.2.1
        have hown : W1.ownsRow w.heap.size 57 6 (.slice A5 G.length cap5) G.length (G.flatMap encG) := by
          have := row_foot HT5.out.row hf (fun q hq hq2 => HT5.out.mapNe (by rw [hq, hq2]))
          simpa [RowAt] using this
        have HOW := Lib.hid hown
        have hkbne : kb ≠ gb + 1 := fun e => by
          have h1 := HKB.out
          have h2 := HT5.out.map
          unfold PlacesAt at h2
          rw [e, h2] at h1
          cases h1
        have hkW : W1.heap[kb]? = some (.cells #[.int .u32 k.src, .int .u32 k.dst, .int .i64 k.proto, .int .i64 k.sport, .int .i64 k.dport] 48 (0, 0)) := (hf.block kb (blk_lt HKB.out) hkbne).trans HKB.out
        have e0 : W1.cell? ⟨kb, 0, none⟩ = some (.int .u32 k.src) := (blk_cell hkW 0).trans rfl
        have e1 : W1.cell? ⟨kb, 1, none⟩ = some (.int .u32 k.dst) := (blk_cell hkW 1).trans rfl
        have e2 : W1.cell? ⟨kb, 2, none⟩ = some (.int .i64 k.proto) := (blk_cell hkW 2).trans rfl
        have e3 : W1.cell? ⟨kb, 3, none⟩ = some (.int .i64 k.sport) := (blk_cell hkW 3).trans rfl
        have e4 : W1.cell? ⟨kb, 4, none⟩ = some (.int .i64 k.dport) := (blk_cell hkW 4).trans rfl
        have hkl := blk_lt hkW
        have d0 : w5.cell? ⟨kb, 0, none⟩ = some (.int .u32 k.src) := (blk_cell HKB.out 0).trans rfl
        have d1 : w5.cell? ⟨kb, 1, none⟩ = some (.int .u32 k.dst) := (blk_cell HKB.out 1).trans rfl
        have d2 : w5.cell? ⟨kb, 2, none⟩ = some (.int .i64 k.proto) := (blk_cell HKB.out 2).trans rfl
        have d3 : w5.cell? ⟨kb, 3, none⟩ = some (.int .i64 k.sport) := (blk_cell HKB.out 3).trans rfl
        have d4 : w5.cell? ⟨kb, 4, none⟩ = some (.int .i64 k.dport) := (blk_cell HKB.out 4).trans rfl
        have hB1 : Below w.heap.size w W1 := HB5.out.trans ⟨hf.os, hf.tape, hf.output, hf.size, fun q hq => hf.block q (by have := HB5.out.size; omega) (fun e => by have := HT5.out.base; omega)⟩
        have HB1 := Lib.hid hB1
        have HMF : Aside (PlacesAt W1 (gb + 1) (G.map (·.key) ++ [k]) ∧ Foot (fun q => q = gb + 1) w5 W1) := ⟨hm, hf⟩
        have HBU := Lib.hid hbump
        obtain ⟨i0, hi0, hz0, hz1, hz2⟩ := info_parts info57
        have hn1 : G.length + 1 ≤ maxLen := by unfold maxLen; omega
        have hby : (G.length + 1) * 40 ≤ 140737488355328 := by omega
        have hs1 : w.heap.size ≤ W1.heap.size := hB1.size
        clear hown hkbne hkW hB1 hm hf hbump
        unfold valK at hrun hrun2
        go_wp2
        rw [hrun]
        clear hrun
        go_wp2_with (at_builtin; refine wpList_append_lies _ rfl (.tmp 45) (.tmp 48) 51 rfl w.heap.size 57 i0 _ 6 40 Try.underlying51 hi0 hz0 hz1 hz2 rfl (by decide) _ _ _ rfl (HOW.out.alloc _) ⟨W1.heap.size, 0, none⟩ 1 1 [.int .u32 k.src, .int .u32 k.dst, .int .i64 k.proto, .int .i64 k.sport, .int .i64 k.dport, .int .i64 0] rfl rfl (World.news_of_block (cs := #[.int .u32 k.src, .int .u32 k.dst, .int .i64 k.proto, .int .i64 k.sport, .int .i64 k.dport, .int .i64 0]) (t := 57) (fr := (0, 0)) (heap_alloc_new _ _)) (by simp [Value.oneCell']) (by omega) hn1 hby (by simp; omega) _ rfl ?_; intro g2 cap2 w6 hown6 hgrow hat hlt2; (have hT6 := HT5.out.pushed (g := g2) (cap := cap2) (W1 := W1.alloc (.cells #[.int .u32 k.src, .int .u32 k.dst, .int .i64 k.proto, .int .i64 k.sport, .int .i64 k.dport, .int .i64 0] 57)) (W' := w6) (x := k) (blk_alloc HMF.out.1 _) (HMF.out.2.trans (Foot.alloc _ _ _)) hgrow hown6); (have hB6 : Below w.heap.size w w6 := (HB1.out.alloc hs1 _).trans ⟨hgrow.os, hgrow.tape, hgrow.output, hgrow.size, fun q hq => hgrow.block q (by simp; omega) (fun e => by have := (HOW.out.lt _ e.symm).1; omega)⟩); (obtain ⟨k0, k1, k2, k3, k4⟩ := hT6.cellOf (j := G.length) (x := ⟨k, 0⟩) (by simp)); (have HT6 := Lib.hid hT6); (have HB6 := Lib.hid hB6); clear hT6 hB6 hown6 hgrow hat hrun2 d0 d1 d2 d3 d4 e0 e1 e2 e3 e4)
        go_roundg (n - (i + 1))
        case measure => omega
        case rel => exact ⟨i + 1, _, by go_num, rfl, by omega, Nat.le_refl _, by rw [HS.out, HBU.out]; exact HT6.out.counted (x := ⟨k, 0⟩) (by simp), HB6.out.setCell (p := ⟨g2, G.length * 6 + 5, none⟩) k2 _⟩
    · have hltz : ¬ (i : Int) < (n : Int) := by omega
      obtain rfl : i = n := by omega
      have hGl := (HN.out i).2.1
      have hGN := HN.out i
      have hs1 := HF.out.size
      obtain ⟨G, hG⟩ : ∃ G, G = grpsTo b D i := ⟨_, rfl⟩
      rw [← hG] at HT hGl hGN
      have HG := Lib.hid hG
      clear hG
      have hrow : wr.ownsRow w.heap.size 57 6 v G.length (G.flatMap encG) := by simpa [RowAt] using HT.out.row
      rcases hrow.2 with ⟨rfl, hn0⟩ | ⟨g, cap5, cur, rfl, hb5, hg5, _⟩
      · have hso := sortG_nil wr
        obtain rfl : G = [] := List.eq_nil_of_length_eq_zero hn0
        clear hb0 hb3 hltz hi hkx
        go_wp2_with (go_at_call 61; refine hso.mono ?_; rintro e w1 ⟨rfl, rfl⟩)
        go_ret
        have hm0 : (min 0 (max most 0)).toNat = 0 := by omega
        refine ⟨[], none, 0, by rw [hm0]; rfl, ?_, ?_, HF.out, fun k hk => absurd hk (Nat.not_lt_zero _)⟩
        · rw [← HG.out]; exact ⟨List.Perm.refl _, fun _ _ _ hj => absurd hj (Nat.not_lt_zero _), fun _ _ _ hj => absurd hj (Nat.not_lt_zero _)⟩
        · show ((0 : Nat) : Int) = min ((0 : Nat) : Int) (max most 0)
          omega
      · have hb5' : g < wr.heap.size := blk_lt hg5
        have hR0 : RowAt encG 6 57 w.heap.size wr (.slice (some ⟨g, 0, none⟩) G.toArray.size cap5) G.toArray := by rw [List.size_toArray]; exact HT.out.row
        have hR : RowK encG 6 wr g 0 G.toArray := ⟨encG_len, encG_one, hR0.holds encG_len (by decide), hb5'⟩
        have hSo := sortStable_G 6 Try.isAgg57 Try.sizeOf57 encG cfG swoG 62 #[] g 0 cap5 G.toArray wr (enters_of Try.func62 (by kernel_rfl) rfl) (cmpLaysG _ _ _ _) hR (by rw [List.size_toArray]; omega)
        rw [List.size_toArray] at hSo
        have HR0 := Lib.hid hR0
        clear hR hR0 hrow hltz hkx hb0 hb3
        go_wp2_with (go_at_call 61; refine hSo.mono ?_; rintro e w1 ⟨rfl, T, hM, hS⟩)
        go_ret
        have hTs : T.size = G.toArray.size := hM.1.1.1
        have hTl : T.toList.length = G.length := by rw [Array.length_toList, hTs, List.size_toArray]
        obtain ⟨hrT, hfT⟩ := HR0.out.sorted encG_len (by decide) hS hTs
        have hsort : Sorted G T.toList := merged_sorted (d := G.toArray) (by rw [List.size_toArray]; exact hM)
        have hbT : Below w.heap.size w w1 := HF.out.trans ⟨hfT.os, hfT.tape, hfT.output, hfT.size, fun q hq => hfT.block q (by omega) (fun e => by omega)⟩
        refine ⟨T.toList, some ⟨g, 0, none⟩, (min (G.length : Int) (max most 0)).toNat, rfl, by rw [← HG.out]; exact hsort, by rw [hTl]; omega, hbT, fun k hk => ⟨g, rfl, hb5, by have := hfT.size; omega, fun c hc => ?_⟩⟩
        obtain ⟨A, cap', hv, _, hcs⟩ := hrT.form encG_len
        simp only [Value.slice.injEq] at hv
        obtain ⟨_, _, _, hcell⟩ := hcs g hv.1.symm
        rw [hcell k (by rw [hTs, List.size_toArray]; omega) c hc]
        congr 2
        simp [getElem!_def]

end Go.Proofs.Ytcmgfmpmapnckaa
