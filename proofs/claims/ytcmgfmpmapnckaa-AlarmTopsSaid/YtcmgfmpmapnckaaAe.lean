/- The map of times by keys, where it holds one key at most; the document's example of layer 37. -/
import Derived.Test.YtcmgfmpmapnckaaAd
namespace Go.Proofs.Ytcmgfmpmapnckaa
open Go.Shelf Go.RowKit Go.Lib Go.Sort
set_option linter.unusedVariables false
set_option linter.unusedSimpArgs false

def kx7 : Ky := ⟨7, 0, 0, 0, 0⟩
def kv7 : Value := .agg #[.int .u32 7, .int .u32 0, .int .i64 0, .int .i64 0, .int .i64 0]
theorem kx7_ok : kx7.Ok := ⟨by decide, by decide, by decide, by decide, by decide⟩
theorem kv7_key : ∃ l, keyOf Try.prog 48 kv7 = some l := keyOf48 kx7 kx7_ok

section
variable {w : World} {b : Nat} {tv : Value}
theorem find7_nil : (Instr.findKey 48 kv7 []).run Try.prog w = .ok none w := by
  obtain ⟨l, hl⟩ := kv7_key
  rcases law48.find w hl [] (by simp) with ⟨h1, _⟩ | ⟨j, e, _, h2, _⟩
  · exact h1
  · cases h2
theorem find7_one : (Instr.findKey 48 kv7 [⟨kv7, tv, 0⟩]).run Try.prog w = .ok (some (0, tv)) w := by
  obtain ⟨l, hl⟩ := kv7_key
  rcases law48.find w hl [⟨kv7, tv, 0⟩] (by intro e he; obtain rfl := List.mem_singleton.1 he; exact ⟨l, hl⟩) with ⟨_, h2⟩ | ⟨j, e, h1, h2, h3⟩
  · exact absurd rfl (h2 _ (List.mem_singleton.2 rfl))
  · cases j with
    | zero => cases h2; exact h1
    | succ j => cases h2

theorem entry_new (h : w.heap[b]? = some (.map #[] 0)) :
    ∃ w', (Instr.mapEntry 195 (.map (some b)) kv7).run Try.prog w = .ok (.tuple #[.slice none 0 0, .int .i64 0]) w' ∧ w'.heap[b]? = some (.map #[⟨kv7, .slice none 0 0, 0⟩] 1) ∧ Foot (fun k => k = b) w w' := by
  obtain ⟨l, hl⟩ := kv7_key
  have hlt : b < w.heap.size := blk_lt h
  refine ⟨{ w with heap := w.heap.setIfInBounds b (.map #[⟨kv7, .slice none 0 0, 0⟩] 1) }, ?_, by simp [hlt], ⟨rfl, rfl, rfl, by simp, fun k hk' hn' => ?_⟩⟩
  · simp [Instr.mapEntry, run_underlying Try.underlying195, MapKept.run_getObj_map h, law48.check w _ hl, find7_nil, MapKept.run_setObj_map _ h, Result.andThen, Try.zeroValue54, goInt]
  · show (w.heap.setIfInBounds b _)[k]? = _
    rw [Array.getElem?_setIfInBounds, if_neg (fun e => hn' e.symm)]
theorem entry_old (h : w.heap[b]? = some (.map #[⟨kv7, tv, 0⟩] 1)) :
    ∃ w', (Instr.mapEntry 195 (.map (some b)) kv7).run Try.prog w = .ok (.tuple #[tv, .int .i64 0]) w' ∧ w'.heap[b]? = some (.map #[⟨kv7, tv, 0⟩] 1) ∧ Foot (fun k => k = b) w w' := by
  obtain ⟨l, hl⟩ := kv7_key
  have hlt : b < w.heap.size := blk_lt h
  refine ⟨{ w with heap := w.heap.setIfInBounds b (.map #[⟨kv7, tv, 0⟩] 1) }, ?_, by simp [hlt], ⟨rfl, rfl, rfl, by simp, fun k hk' hn' => ?_⟩⟩
  · simp [Instr.mapEntry, run_underlying Try.underlying195, MapKept.run_getObj_map h, law48.check w _ hl, find7_one, law48.stays w hl, MapKept.run_setObj_map _ h, Result.andThen, goInt]
  · show (w.heap.setIfInBounds b _)[k]? = _
    rw [Array.getElem?_setIfInBounds, if_neg (fun e => hn' e.symm)]
theorem entry_put (h : w.heap[b]? = some (.map #[⟨kv7, tv, 0⟩] 1)) (u : Value) :
    ∃ w', (Instr.entryStore 195 (.map (some b)) (.int .i64 0) u).run Try.prog w = .ok () w' ∧ w'.heap[b]? = some (.map #[⟨kv7, u, 0⟩] 1) ∧ Foot (fun k => k = b) w w' := by
  have hlt : b < w.heap.size := blk_lt h
  refine ⟨{ w with heap := w.heap.setIfInBounds b (.map #[⟨kv7, u, 0⟩] 1) }, ?_, by simp [hlt], ⟨rfl, rfl, rfl, by simp, fun k hk' hn' => ?_⟩⟩
  · simp [Instr.entryStore, MapKept.run_getObj_map h, asInt, asIntOf, MapKept.run_setObj_map _ h, Result.andThen]
  · show (w.heap.setIfInBounds b _)[k]? = _
    rw [Array.getElem?_setIfInBounds, if_neg (fun e => hn' e.symm)]
theorem lookup7 (h : w.heap[b]? = some (.map #[⟨kv7, tv, 0⟩] 1)) : (Instr.lookup 195 (.map (some b)) kv7 false).run Try.prog w = .ok tv w := by
  obtain ⟨l, hl⟩ := kv7_key
  simp [Instr.lookup, run_underlying Try.underlying195, MapKept.run_getObj_map h, law48.check w _ hl, find7_one, Result.andThen]
theorem delete7 (h : w.heap[b]? = some (.map #[⟨kv7, tv, 0⟩] 1)) (ty : TypeId) :
    ∃ w', (Builtin.delete_ #[195, 48] ty #[.map (some b), kv7]).run Try.prog w = .ok (.tuple #[]) w' ∧ Foot (fun k => k = b) w w' := by
  obtain ⟨l, hl⟩ := kv7_key
  refine ⟨{ w with heap := w.heap.setIfInBounds b (.map #[] 1) }, ?_, ⟨rfl, rfl, rfl, by simp, fun k hk' hn' => ?_⟩⟩
  · simp [Builtin.delete_, run_underlying Try.underlying195, MapKept.run_getObj_map h, law48.check w _ hl, find7_one, MapKept.run_setObj_map _ h, Result.andThen]
  · show (w.heap.setIfInBounds b _)[k]? = _
    rw [Array.getElem?_setIfInBounds, if_neg (fun e => hn' e.symm)]

/-- The map of times behind so many lines. -/
def Map7 (w : World) (b i : Nat) (tv : Value) : Prop := (i = 0 ∧ tv = .slice none 0 0 ∧ w.heap[b]? = some (.map #[] 0)) ∨ (0 < i ∧ w.heap[b]? = some (.map #[⟨kv7, tv, 0⟩] 1))
theorem Map7.blk {i : Nat} (h : Map7 w b i tv) : ∃ es n, w.heap[b]? = some (.map es n) := by
  rcases h with ⟨_, _, h⟩ | ⟨_, h⟩
  · exact ⟨_, _, h⟩
  · exact ⟨_, _, h⟩
theorem Map7.entry {i : Nat} (h : Map7 w b i tv) :
    ∃ w', (Instr.mapEntry 195 (.map (some b)) kv7).run Try.prog w = .ok (.tuple #[tv, .int .i64 0]) w' ∧ w'.heap[b]? = some (.map #[⟨kv7, tv, 0⟩] 1) ∧ Foot (fun k => k = b) w w' := by
  rcases h with ⟨_, rfl, h⟩ | ⟨_, h⟩
  · exact entry_new h
  · exact entry_old h
end

section
variable {P : Program} (w : World) {ops : Array Oper} {rest : List Oper} {o : Oper} {a : Act} {Q : Exit → Act → World → Prop}
theorem wpList_delete_run (hg : o.guard = none) (m x : Operand) (t k : TypeId) (hop : o.op = Op.call { callee := Callee.builtin Builtin.delete, args := #[m, x], argTypes := #[t, k] })
    (mv key : Value) (hm : a.eval m = mv) (hx : a.eval x = key) {w' : World} (hrun : (Builtin.delete_ #[t, k] o.type #[mv, key]).run P w = .ok (.tuple #[]) w')
    (hK : wpList P ops Q rest (a.put o.dst (.tuple #[])) w') : wpList P ops Q (o :: rest) a w := by
  refine wpList_plain hg fun K' hK' => ?_
  unfold Oper.wp
  simp [execOp, hop, resolve, invoke, builtin, hm, hx, hrun, Result.andThen]
  exact hK' _ _ hK
end

theorem late_any (t now within : Int) (w : World) (h0 : 0 ≤ t) (h1 : t ≤ now) (h2 : now ≤ 1000) (h3 : 0 ≤ within) (h4 : within ≤ 1000) :
    Calls Try.prog 131 #[.int .i64 t, .int .i64 now, .int .i64 within] w fun e w' => e = .returned (.bool (decide (now - t < within))) ∧ w = w' := by
  go_enter Try.func131, Try.ntmps131
  go_wp2
  go_ret
  exact ⟨ret_bool (by simp; omega), rfl⟩

def D7 (i : Nat) : Ln := ⟨2 * (i : Int) + 1, 6, kx7⟩
def ts7 (i : Nat) : List Value := (List.range i).map fun (j : Nat) => Value.int .i64 (2 * (j : Int) + 1)
theorem ts7_succ (i : Nat) : ts7 (i + 1) = ts7 i ++ [.int .i64 (2 * (i : Int) + 1)] := by unfold ts7; rw [List.range_succ, List.map_append]; rfl
theorem ts7_get {i j : Nat} (h : j < i) : (ts7 i)[j]? = some (.int .i64 (2 * (j : Int) + 1)) := by unfold ts7; simp [h]

/-- On the way through the example. -/
structure St7 (B wb gb mb : Nat) (tv : Value) (i : Nat) (W : World) : Prop where
  base : B ≤ mb
  wch : W.heap[wb]? = some (.cells #[.int .i64 6, .int .i64 1, .int .i64 3, .int .i64 5] 123 (0, 0))
  box : W.heap[gb]? = some (.cells #[.func (.func 100) #[] #[]] 130 (0, 0))
  map : Map7 W mb i tv
  row : W.ownsRow B 3 1 tv i (ts7 i)
theorem Map7.keep {W W' : World} {b i : Nat} {tv : Value} (h : Map7 W b i tv) (hb : Below W.heap.size W W') : Map7 W' b i tv := by
  rcases h with ⟨h1, h2, h⟩ | ⟨h1, h⟩
  · exact .inl ⟨h1, h2, (hb.block b (blk_lt h)).trans h⟩
  · exact .inr ⟨h1, (hb.block b (blk_lt h)).trans h⟩
theorem row_below {B E k n : Nat} {v : Value} {xs : List Value} {W W' : World} (h : W.ownsRow B E k v n xs) (hb : Below W.heap.size W W') : W'.ownsRow B E k v n xs := by
  refine ⟨h.1, ?_⟩
  rcases h.2 with hn | ⟨g, cap, cur, hv, hB, hg, rest⟩
  · exact .inl hn
  · exact .inr ⟨g, cap, cur, hv, hB, (hb.block g (blk_lt hg)).trans hg, rest⟩
theorem row_foot' {B E k n : Nat} {v : Value} {xs : List Value} {W W' : World} (h : W.ownsRow B E k v n xs) {S : Nat → Prop} (hf : Foot S W W') (hS : ∀ g, v.ownBlock = some g → ¬ S g) : W'.ownsRow B E k v n xs := by
  refine ⟨h.1, ?_⟩
  rcases h.2 with hn | ⟨g, cap, cur, hv, hB, hg, rest⟩
  · exact .inl hn
  · exact .inr ⟨g, cap, cur, hv, hB, (hf.block g (blk_lt hg) (hS g (by rw [hv]; rfl))).trans hg, rest⟩
theorem St7.below {B wb gb mb i : Nat} {tv : Value} {W W' : World} (h : St7 B wb gb mb tv i W) (hb : Below W.heap.size W W') : St7 B wb gb mb tv i W' :=
  ⟨h.base, (hb.block wb (blk_lt h.wch)).trans h.wch, (hb.block gb (blk_lt h.box)).trans h.box, h.map.keep hb, row_below h.row hb⟩

theorem St7.mapNe {B wb gb mb i : Nat} {tv : Value} {W : World} (h : St7 B wb gb mb tv i W) : tv.ownBlock ≠ some mb := by
  obtain ⟨es, n, hb⟩ := h.map.blk
  exact own_ne_map h.row hb
theorem cells_ne_map {W : World} {b mb n : Nat} {cs : Array Value} {T : TypeId} {es : Array MapEntry} (h1 : W.heap[b]? = some (.cells cs T (0, 0))) (h2 : W.heap[mb]? = some (.map es n)) : b ≠ mb := fun e => by
  rw [e, h2] at h1; cases h1
/-- A time more of the key. -/
theorem St7.more {B wb gb mb i g cap : Nat} {tv : Value} {W W7 W8 W9 : World} (h : St7 B wb gb mb tv i W) (hf7 : Foot (fun k => k = mb) W W7) (hg : W7.grownBy W8 tv.ownBlock)
    (hown : W8.ownsRow B 3 1 (.slice (some ⟨g, 0, none⟩) (i + 1) cap) (i + 1) (ts7 i ++ [.int .i64 (2 * (i : Int) + 1)])) (hm8 : W8.heap[mb]? = some (.map #[⟨kv7, tv, 0⟩] 1))
    (hm9 : W9.heap[mb]? = some (.map #[⟨kv7, .slice (some ⟨g, 0, none⟩) (i + 1) cap, 0⟩] 1)) (hf9 : Foot (fun k => k = mb) W8 W9) :
    St7 B wb gb mb (.slice (some ⟨g, 0, none⟩) (i + 1) cap) (i + 1) W9 ∧ ∀ (b : Nat) (cs : Array Value) (T : TypeId), W.heap[b]? = some (Obj.cells cs T (0, 0)) → 3 ≠ T → W9.heap[b]? = some (Obj.cells cs T (0, 0)) := by
  have key : ∀ (b : Nat) (cs : Array Value) (T : TypeId), W.heap[b]? = some (Obj.cells cs T (0, 0)) → 3 ≠ T → W9.heap[b]? = some (Obj.cells cs T (0, 0)) := by
    intro b cs T hb hT
    obtain ⟨es, n, hmb⟩ := h.map.blk
    have hne : b ≠ mb := cells_ne_map hb hmb
    have h7 : W7.heap[b]? = some (.cells cs T (0, 0)) := (hf7.block b (blk_lt hb) hne).trans hb
    have hon : tv.ownBlock ≠ some b := own_ne_box h.row hb hT
    have h8 : W8.heap[b]? = some (.cells cs T (0, 0)) := (hg.block b (blk_lt h7) (fun e => hon e.symm)).trans h7
    exact (hf9.block b (blk_lt h8) hne).trans h8
  refine ⟨⟨h.base, key _ _ _ h.wch (by decide), key _ _ _ h.box (by decide), .inr ⟨Nat.succ_pos _, hm9⟩, ?_⟩, key⟩
  rw [ts7_succ]
  exact row_foot' hown hf9 (fun q hq e => own_ne_map hown hm8 (by rw [hq, e]))

theorem info126 : (Try.prog.info? 126).map (fun i => (i.zero, i.size, i.bytes)) = some (some (.agg #[.int .i64 0, .int .i64 0, .int .i64 0]), 3, 24) := by kernel_rfl
theorem info3 : (Try.prog.info? 3).map (fun i => (i.zero, i.size, i.bytes)) = some (some (.int .i64 0), 1, 8) := by kernel_rfl

def Post7 (w : World) (e : Ending) (w' : World) : Prop := ∃ g cap, e = .returned (.slice (some ⟨g, 0, none⟩) 1 cap) ∧ w'.ownsRow w.heap.size 126 3 (.slice (some ⟨g, 0, none⟩) 1 cap) 1 [.int .i64 0, .int .i64 2, .int .i64 3] ∧ Below w.heap.size w w'

set_option maxHeartbeats 8000000 in
set_option maxRecDepth 100000 in
theorem strikes7 {A : Option Addr} {cap : Nat} (w : World) (h : ArgL w A 3 D7) :
    Calls Try.prog 99 #[.int .i64 0, .agg #[.int .i64 6, .int .i64 1, .int .i64 3, .int .i64 5], .slice A 3 cap] w (Post7 w) := by
  have H := Lib.hid h
  have hby : ∀ W, Calls Try.prog 60 #[.int .i64 1] W fun e w' => e = .returned (.agg #[.func (.func 100) #[] #[]]) ∧ Below W.heap.size W w' := fun W => by_any 1 W
  have hlate := fun t now W h0 h1 h2 => late_any t now 5 W h0 h1 h2 (by omega) (by omega)
  have eg : ∀ args w, (callFunc 100 args).run Try.prog w = .ok (.enter 100 args) w := enters_of Try.func100 (by kernel_rfl) rfl
  have hmm := @run_makeMap Try.prog
  clear h
  go_enter Try.func99, Try.ntmps99
  go_wp2_with (first
    | (go_at_call 60; refine (hby _).mono ?_; rintro e w2 ⟨rfl, hf2⟩))
  have hz2 : w.heap.size + 2 ≤ w2.heap.size := by have := hf2.size; simp at this; omega
  have hT : St7 w.heap.size w.heap.size w2.heap.size (w.heap.size + 1) (.slice none 0 0) 0 (w2.alloc (.cells #[.func (.func 100) #[] #[]] 130)) :=
    ⟨Nat.le_succ _, blk_alloc ((hf2.block w.heap.size (by simp; omega)).trans (blk_alloc (blk_new _ _) _)) _, blk_new _ _,
      .inl ⟨rfl, rfl, blk_alloc ((hf2.block (w.heap.size + 1) (by simp)).trans (blk_new' _ _ _ (by simp))) _⟩, World.ownsRow_nil _ _ _ _⟩
  have hF : Below w.heap.size w (w2.alloc (.cells #[.func (.func 100) #[] #[]] 130)) :=
    (((Below.refl _ _).alloc (Nat.le_refl _) _).alloc (by simp) _ |>.trans ⟨hf2.os, hf2.tape, hf2.output, hf2.size, fun q hq => hf2.block q (by simp; omega)⟩).alloc (by omega) _
  have HT : Aside (St7 w.heap.size w.heap.size w2.heap.size (w.heap.size + 1) (.slice none 0 0) 0 (w2.alloc (.cells #[.func (.func 100) #[] #[]] 130))) := hT
  have HF := Lib.hid hF
  clear hT hF hf2 hz2 hmm hby
  generalize w2.alloc (.cells #[.func (.func 100) #[] #[]] 130) = w3 at HT HF ⊢
  generalize w2.heap.size = gb at HT HF ⊢
  try clear w2
  go_loopg [7, 22] 3 (fun kx s7 s22 wr => ∃ (i : Nat), s22 = .int .i64 i ∧ i ≤ 3 ∧ 3 - i ≤ kx ∧ (i < 3 → s7 = .slice none 0 0) ∧ Aside (i < 3 → ∃ tv, St7 w.heap.size w.heap.size gb (w.heap.size + 1) tv i wr) ∧
    Aside (i = 3 → ∃ g cap, s7 = .slice (some ⟨g, 0, none⟩) 1 cap ∧ wr.ownsRow w.heap.size 126 3 (.slice (some ⟨g, 0, none⟩) 1 cap) 1 [.int .i64 0, .int .i64 2, .int .i64 3]) ∧ Aside (Below w.heap.size w wr))
  case atStart => exact ⟨0, rfl, by omega, by omega, fun _ => rfl, (fun _ => ⟨_, HT.out⟩ : _ → _), (fun h => by omega : _ → _), HF⟩
  case round =>
    clear HT HF
    obtain ⟨i, rfl, hi, hkx, hs7, HT, HE, HF⟩ := hrel
    by_cases hlt : i < 3
    · obtain rfl := hs7 hlt
      obtain ⟨tv, hT⟩ := HT.out hlt
      have hltz : (i : Int) < 3 := by omega
      obtain ⟨a, rfl, hab, hLA, hok⟩ := H.out i hlt
      obtain ⟨c0, c1, c2, c3, c4, c5, c6⟩ := hLA.keep hab HF.out
      have hs1 := HF.out.size
      have hgl : gb < wr.heap.size := blk_lt hT.box
      have hwl : w.heap.size < wr.heap.size := blk_lt hT.wch
      have hbx : wr.cell? ⟨gb, 0, none⟩ = some (.func (.func 100) #[] #[]) := (blk_cell hT.box 0).trans rfl
      have q0 : wr.cell? ⟨w.heap.size, 0, none⟩ = some (.int .i64 6) := (blk_cell hT.wch 0).trans rfl
      have q1 : wr.cell? ⟨w.heap.size, 1, none⟩ = some (.int .i64 1) := (blk_cell hT.wch 1).trans rfl
      have q2 : wr.cell? ⟨w.heap.size, 2, none⟩ = some (.int .i64 3) := (blk_cell hT.wch 2).trans rfl
      have q3 : wr.cell? ⟨w.heap.size, 3, none⟩ = some (.int .i64 5) := (blk_cell hT.wch 3).trans rfl
      simp only [D7, kx7] at c0 c1 c2 c3 c4 c5 c6
      have hcall : ∀ W, Calls Try.prog 100 #[.agg #[.int .i64 (2 * (i : Int) + 1), .int .i64 6, .int .u32 7, .int .u32 0, .int .i64 0, .int .i64 0, .int .i64 0]] W fun e w' => e = .returned kv7 ∧ Below W.heap.size W w' := fun W => key_any 1 ⟨2 * (i : Int) + 1, 6, kx7⟩ W
      have HTT : Aside (St7 w.heap.size w.heap.size gb (w.heap.size + 1) tv i wr) := hT
      unfold kv7 at hcall
      clear hLA hok HT HE hs7 hT
      go_wp2_with (go_at_fn 100; refine (hcall _).mono ?_; rintro e w4 ⟨rfl, hf4⟩; (have hlb : w4.heap[wr.heap.size]? = some (.cells #[.int .i64 (2 * (i : Int) + 1), .int .i64 6, .int .u32 7, .int .u32 0, .int .i64 0, .int .i64 0, .int .i64 0] 50 (0, 0)) := (hf4.block wr.heap.size (by simp)).trans (blk_new _ _)); (have d0 : w4.cell? ⟨wr.heap.size, 0, none⟩ = some (.int .i64 (2 * (i : Int) + 1)) := (blk_cell hlb 0).trans rfl); (have hll := blk_lt hlb))
      have hT6 : St7 w.heap.size w.heap.size gb (w.heap.size + 1) tv i ((w4.alloc (.cells #[.int .u32 7, .int .u32 0, .int .i64 0, .int .i64 0, .int .i64 0] 48)).alloc (.cells #[.int .i64 (2 * (i : Int) + 1)] 3)) :=
        (((HTT.out.below ((Below.refl _ _).alloc (Nat.le_refl _) _)).below hf4).below ((Below.refl _ _).alloc (Nat.le_refl _) _)).below ((Below.refl _ _).alloc (Nat.le_refl _) _)
      have hz4 : w.heap.size ≤ w4.heap.size := by omega
      have hb4 : Below w.heap.size w w4 := (HF.out.alloc hs1 _).trans ⟨hf4.os, hf4.tape, hf4.output, hf4.size, fun q hq => hf4.block q (by simp; omega)⟩
      have hb6 : Below w.heap.size w ((w4.alloc (.cells #[.int .u32 7, .int .u32 0, .int .i64 0, .int .i64 0, .int .i64 0] 48)).alloc (.cells #[.int .i64 (2 * (i : Int) + 1)] 3)) := (hb4.alloc hz4 _).alloc (by simp; omega) _
      have hkb : ((w4.alloc (.cells #[.int .u32 7, .int .u32 0, .int .i64 0, .int .i64 0, .int .i64 0] 48)).alloc (.cells #[.int .i64 (2 * (i : Int) + 1)] 3)).heap[w4.heap.size]? = some (.cells #[.int .u32 7, .int .u32 0, .int .i64 0, .int .i64 0, .int .i64 0] 48 (0, 0)) := blk_alloc (blk_new _ _) _
      have htb : ((w4.alloc (.cells #[.int .u32 7, .int .u32 0, .int .i64 0, .int .i64 0, .int .i64 0] 48)).alloc (.cells #[.int .i64 (2 * (i : Int) + 1)] 3)).heap[w4.heap.size + 1]? = some (.cells #[.int .i64 (2 * (i : Int) + 1)] 3 (0, 0)) := blk_new' _ _ _ (by simp)
      have hlb6 : ((w4.alloc (.cells #[.int .u32 7, .int .u32 0, .int .i64 0, .int .i64 0, .int .i64 0] 48)).alloc (.cells #[.int .i64 (2 * (i : Int) + 1)] 3)).heap[wr.heap.size]? = some (.cells #[.int .i64 (2 * (i : Int) + 1), .int .i64 6, .int .u32 7, .int .u32 0, .int .i64 0, .int .i64 0, .int .i64 0] 50 (0, 0)) := blk_alloc (blk_alloc hlb _) _
      have HT6 := Lib.hid hT6
      have HB6 := Lib.hid hb6
      have HKB := Lib.hid hkb
      have HTB := Lib.hid htb
      have HLB := Lib.hid hlb6
      clear hT6 hz4 hb4 hb6 hkb htb hlb6 hf4 hlb d0 hll q0 q1 q2 q3 c0 c1 c2 c3 c4 c5 c6 hcall HTT HF hbx hwl hgl hs1 hab
      generalize (w4.alloc (.cells #[.int .u32 7, .int .u32 0, .int .i64 0, .int .i64 0, .int .i64 0] 48)).alloc (.cells #[.int .i64 (2 * (i : Int) + 1)] 3) = w6 at HT6 HB6 HKB HTB HLB ⊢
      generalize w4.heap.size = kb at HKB HTB ⊢
      generalize wr.heap.size = lb at HLB ⊢
      obtain ⟨w7, hrun, hm7, hf7⟩ := HT6.out.map.entry
      unfold kv7 at hrun
      rw [hrun]
      clear hrun
      have hown7 : w7.ownsRow w.heap.size 3 1 tv i (ts7 i) := row_foot' HT6.out.row hf7 (fun q hq e => HT6.out.mapNe (by rw [hq, e]))
      have htb7 : w7.heap[kb + 1]? = some (.cells #[.int .i64 (2 * (i : Int) + 1)] 3 (0, 0)) := by
        obtain ⟨es, n, hmb⟩ := HT6.out.map.blk
        exact (hf7.block (kb + 1) (blk_lt HTB.out) (cells_ne_map HTB.out hmb)).trans HTB.out
      have hb7 : Below w.heap.size w w7 := HB6.out.trans ⟨hf7.os, hf7.tape, hf7.output, hf7.size, fun q hq => hf7.block q (by have := HB6.out.size; omega) (fun e => by omega)⟩
      have hs7 := hb7.size
      obtain ⟨i0, hi0, hz0, hz1, hz2⟩ := info_parts info3
      have hn1 : i + 1 ≤ maxLen := by unfold maxLen; omega
      have hby : (i + 1) * 8 ≤ 140737488355328 := by omega
      have HOW := Lib.hid hown7
      have HTB7 := Lib.hid htb7
      have HB7 := Lib.hid hb7
      have HF7 : Aside (Foot (fun k => k = w.heap.size + 1) w6 w7) := hf7
      have HM7 := Lib.hid hm7
      clear hown7 htb7 hb7 hf7 hm7
      go_wp2_with (at_builtin; refine wpList_append_lies _ rfl (.tmp 38) (.tmp 41) 54 rfl w.heap.size 3 i0 _ 1 8 Try.underlying54 hi0 hz0 hz1 hz2 rfl (by decide) _ _ _ rfl HOW.out ⟨kb + 1, 0, none⟩ 1 1 [.int .i64 (2 * (i : Int) + 1)] rfl rfl (World.news_of_block (cs := #[.int .i64 (2 * (i : Int) + 1)]) (t := 3) (fr := (0, 0)) HTB7.out) (by simp [Value.oneCell']) (by omega) hn1 hby hs7 _ rfl ?_; intro g2 cap2 w8 hown8 hgrow hat hlt2; (have hm8 : w8.heap[w.heap.size + 1]? = some (.map #[⟨kv7, tv, 0⟩] 1) := (hgrow.block _ (blk_lt HM7.out) (fun e => HT6.out.mapNe e.symm)).trans HM7.out); (obtain ⟨w9, hrun9, hm9, hf9⟩ := entry_put hm8 (.slice (some ⟨g2, 0, none⟩) (i + 1) cap2)); (obtain ⟨hT9, hc9⟩ := HT6.out.more HF7.out hgrow hown8 hm8 hm9 hf9); (have HT9 := Lib.hid hT9); (have HC9 := Lib.hid hc9); (have HM9 := Lib.hid hm9); (have hlk := lookup7 hm9); (have hb9 : Below w.heap.size w w9 := (HB7.out.trans ⟨hgrow.os, hgrow.tape, hgrow.output, hgrow.size, fun q hq => hgrow.block q (by omega) (fun e => by have := (HOW.out.lt _ e.symm).1; omega)⟩).trans ⟨hf9.os, hf9.tape, hf9.output, hf9.size, fun q hq => hf9.block q (by have := hgrow.size; omega) (fun e => by omega)⟩); (have HB9 := Lib.hid hb9); (have hlb9 := hc9 _ _ _ HLB.out (by decide)); (have hkb9 := hc9 _ _ _ HKB.out (by decide)); (have f0 : w9.cell? ⟨lb, 0, none⟩ = some (.int .i64 (2 * (i : Int) + 1)) := (blk_cell hlb9 0).trans rfl); (have e0 : w9.cell? ⟨kb, 0, none⟩ = some (.int .u32 7) := (blk_cell hkb9 0).trans rfl); (have e1 : w9.cell? ⟨kb, 1, none⟩ = some (.int .u32 0) := (blk_cell hkb9 1).trans rfl); (have e2 : w9.cell? ⟨kb, 2, none⟩ = some (.int .i64 0) := (blk_cell hkb9 2).trans rfl); (have e3 : w9.cell? ⟨kb, 3, none⟩ = some (.int .i64 0) := (blk_cell hkb9 3).trans rfl); (have e4 : w9.cell? ⟨kb, 4, none⟩ = some (.int .i64 0) := (blk_cell hkb9 4).trans rfl); (have q2 : w9.cell? ⟨w.heap.size, 2, none⟩ = some (.int .i64 3) := (blk_cell hT9.wch 2).trans rfl); (have q3 : w9.cell? ⟨w.heap.size, 3, none⟩ = some (.int .i64 5) := (blk_cell hT9.wch 3).trans rfl); unfold kv7 at hlk; clear hT9 hc9 hm9 hf9 hm8 hown8 hgrow hat hb9 hlb9 hkb9 hi0 hz0 hz1 hz2)
      have hrow : ∀ j : Nat, j < i + 1 → w9.cell? ⟨g2, j, none⟩ = some (.int .i64 (2 * (j : Int) + 1)) := fun j hj => by
        rw [World.ownsRow.cellAt (h := HT9.out.row) j (by omega)]; exact ts7_get hj
      have HRW := Lib.hid hrow
      have hgl : g2 < w9.heap.size := (HT9.out.row.lt g2 rfl).2
      clear hrow
      go_loopg [13, 49] (i + 1) (fun kx s13 s49 wx => ∃ (j : Nat), s49 = .int .i64 j ∧ s13 = .int .i64 j ∧ j ≤ i + 1 ∧ i + 1 - j ≤ kx ∧ wx = w9)
      case atStart => exact ⟨0, rfl, rfl, Nat.zero_le _, Nat.le_refl _, rfl⟩
      case round =>
        obtain ⟨j, rfl, rfl, hj, hjk, rfl⟩ := hrel
        by_cases hjl : j < i + 1
        · have hjz : (j : Int) < (i : Int) + 1 := by omega
          have r0 := HRW.out j hjl
          have hL := hlate (2 * (j : Int) + 1) (2 * (i : Int) + 1) wr (by omega) (by omega) (by omega)
          rw [decide_eq_true (show 2 * (i : Int) + 1 - (2 * (j : Int) + 1) < 5 by omega)] at hL
          go_wp2_with (go_at_call 131; refine hL.mono ?_; rintro e w10 ⟨rfl, rfl⟩)
          go_roundg (i + 1 - (j + 1))
          case measure => omega
          case rel => exact ⟨j + 1, by go_num, by go_num, by omega, Nat.le_refl _, rfl⟩
        · have hjz : ¬ (j : Int) < (i : Int) + 1 := by omega
          obtain rfl : j = i + 1 := by omega
          have hs9 : w.heap.size ≤ wr.heap.size := HB9.out.size
          by_cases hi2 : i = 2
          · subst hi2
            obtain ⟨i1, hi0, hz0, hz1, hz2⟩ := info_parts info126
            clear hjz hjl hj hjk hlk f0 q3
            go_wp2_with (first
              | (at_builtin; refine wpList_append_lies _ rfl (.tmp 66) (.tmp 71) 119 rfl w.heap.size 126 i1 _ 3 24 Try.underlying119 hi0 hz0 hz1 hz2 rfl (by decide) (.slice none 0 0) 0 [] rfl (World.ownsRow_nil _ _ _ _) ⟨wr.heap.size, 0, none⟩ 1 1 [.int .i64 0, .int .i64 2, .int .i64 3] rfl rfl (World.news_of_block (cs := #[.int .i64 0, .int .i64 2, .int .i64 3]) (t := 126) (fr := (0, 0)) (heap_alloc_new _ _)) (by simp [Value.oneCell']) (by omega) (by decide) (by decide) (by simp; omega) _ rfl ?_; intro g3 cap3 w10 hown10 hgrow hat hlt3; (have hm10 : w10.heap[w.heap.size + 1]? = some (.map #[⟨kv7, .slice (some ⟨g2, 0, none⟩) (2 + 1) cap2, 0⟩] 1) := (hgrow.block _ (by have := blk_lt HM9.out; simp; omega) (fun e => by simp [Value.ownBlock] at e)).trans (blk_alloc HM9.out _)); (obtain ⟨w11, hrunD, hfD⟩ := delete7 hm10 0); (have hkb9 : w10.heap[kb]? = some (.cells #[.int .u32 7, .int .u32 0, .int .i64 0, .int .i64 0, .int .i64 0] 48 (0, 0)) := (hgrow.block kb (by have := blk_lt HKB.out; have := HC9.out _ _ _ HKB.out (by decide); have := blk_lt this; simp; omega) (fun e => by simp [Value.ownBlock] at e)).trans (blk_alloc (HC9.out _ _ _ HKB.out (by decide)) _)); (have e0 : w10.cell? ⟨kb, 0, none⟩ = some (.int .u32 7) := (blk_cell hkb9 0).trans rfl); (have e1 : w10.cell? ⟨kb, 1, none⟩ = some (.int .u32 0) := (blk_cell hkb9 1).trans rfl); (have e2 : w10.cell? ⟨kb, 2, none⟩ = some (.int .i64 0) := (blk_cell hkb9 2).trans rfl); (have e3 : w10.cell? ⟨kb, 3, none⟩ = some (.int .i64 0) := (blk_cell hkb9 3).trans rfl); (have e4 : w10.cell? ⟨kb, 4, none⟩ = some (.int .i64 0) := (blk_cell hkb9 4).trans rfl); (have hown11 := row_foot' hown10 hfD (fun q hq e => own_ne_map hown10 hm10 (by rw [hq, e]))); (have hb11 : Below w.heap.size w w11 := ((HB9.out.alloc hs9 _).trans ⟨hgrow.os, hgrow.tape, hgrow.output, hgrow.size, fun q hq => hgrow.block q (by simp; omega) (fun e => by simp [Value.ownBlock] at e)⟩).trans ⟨hfD.os, hfD.tape, hfD.output, hfD.size, fun q hq => hfD.block q (by have := hgrow.size; simp at this; omega) (fun e => by omega)⟩); (have HOWN := Lib.hid hown11); (have HB11 := Lib.hid hb11); unfold kv7 at hrunD; clear hown10 hgrow hat hm10 hkb9 hown11 hb11 hfD)
              | (at_delete; refine wpList_delete_run _ rfl _ _ 195 48 rfl _ _ rfl rfl hrunD ?_))
            go_roundg 0
            case measure => omega
            case rel => exact ⟨3, by go_num, by omega, by omega, fun h => absurd h (by omega), (fun h => absurd h (by omega) : _ → _), (fun _ => ⟨g3, cap3, rfl, HOWN.out⟩ : _ → _), HB11⟩
          · have hi2z : ¬ (3 : Int) ≤ (i : Int) + 1 := by omega
            have hi2y : ¬ (3 : Int) ≤ ((i + 1 : Nat) : Int) := by omega
            go_wp2
            go_roundg (3 - (i + 1))
            case measure => omega
            case rel => exact ⟨i + 1, by go_num, by omega, Nat.le_refl _, fun _ => rfl, (fun _ => ⟨_, HT9.out⟩ : _ → _), (fun h => by omega : _ → _), HB9⟩
    · obtain rfl : i = 3 := by omega
      obtain ⟨g, cp, rfl, hown⟩ := HE.out rfl
      go_wp2
      go_ret
      exact ⟨g, cp, rfl, hown, HF.out⟩

end Go.Proofs.Ytcmgfmpmapnckaa
