/- Keys of lines; maps by such keys; laws on their operations. -/
import Derived.Test.YtcmgfmpmapnckaaBase
import Derived.Laws.StructEq
import Derived.WideKeyRuns
import Derived.Maps.Own
import Derived.DeepKeys3
namespace Go.Proofs.Ytcmgfmpmapnckaa
open Go.RowKit
set_option linter.unusedVariables false
set_option linter.unusedSimpArgs false

/-- A line's key. -/
structure Ky where
  src : Int
  dst : Int
  proto : Int
  sport : Int
  dport : Int
deriving DecidableEq
instance : Inhabited Ky := ⟨⟨0, 0, 0, 0, 0⟩⟩
def encK (x : Ky) : List Value := [.int .u32 x.src, .int .u32 x.dst, .int .i64 x.proto, .int .i64 x.sport, .int .i64 x.dport]
def valK (x : Ky) : Value := .agg #[.int .u32 x.src, .int .u32 x.dst, .int .i64 x.proto, .int .i64 x.sport, .int .i64 x.dport]

theorem equalIn48 (x y : Ky) (w : World) : (Op.equalIn 10000 48 (valK x) (valK y)).run Try.prog w = .ok (decide (x = y)) w := by
  have hS : Try.prog.underlying 48 = some (.struct (Try.prog.fieldsOf 48)) := by kernel_rfl
  have hp : Try.prog.stoodInHeld 48 = false := by kernel_rfl
  unfold valK
  rw [show (10000 : Nat) = 9999 + 1 from rfl, run_equalIn_agg w 9999 48 _ _ hS hp]
  simp only [Program.fieldsOf, Try.underlying48]
  go_simp
  obtain ⟨a1, a2, a3, a4, a5⟩ := x
  obtain ⟨b1, b2, b3, b4, b5⟩ := y
  by_cases h1 : a1 = b1 <;> by_cases h2 : a2 = b2 <;> by_cases h3 : a3 = b3 <;> by_cases h4 : a4 = b4 <;> by_cases h5 : a5 = b5 <;> simp [h1, h2, h3, h4, h5]


/-- A key that can be one. -/
structure Ky.Ok (x : Ky) : Prop where
  src : (Lit.int .u32 x.src).wf = true
  dst : (Lit.int .u32 x.dst).wf = true
  proto : (Lit.int .i64 x.proto).wf = true
  sport : (Lit.int .i64 x.sport).wf = true
  dport : (Lit.int .i64 x.dport).wf = true

theorem law48 : WideMaps.KeyLaw Try.prog 48 := deep_law (m := 2) (by omega) (by kernel_rfl) (by kernel_rfl) (by kernel_rfl)

theorem keyLits48 (d : Nat) (x : Ky) (h : x.Ok) : Try.prog.keyLits (d + 2) 48 [.int .u32 x.src, .int .u32 x.dst, .int .i64 x.proto, .int .i64 x.sport, .int .i64 x.dport] = some [.int .u32 x.src, .int .u32 x.dst, .int .i64 x.proto, .int .i64 x.sport, .int .i64 x.dport] := by
  have c22 : Try.prog.cellsOf 22 = 1 := by kernel_rfl
  have c3 : Try.prog.cellsOf 3 = 1 := by kernel_rfl
  have c48 : Try.prog.cellsOf 48 = 5 := by kernel_rfl
  simp [Program.keyLits, Try.underlying48, Try.underlying22, Try.underlying3, c22, c3, c48, h.src, h.dst, h.proto, h.sport, h.dport]
theorem keyOf48 (x : Ky) (h : x.Ok) : ∃ l, keyOf Try.prog 48 (valK x) = some l := by
  have hk : Try.prog.keyType 48 = true := by kernel_rfl
  have h0 : decide (0 < Try.prog.types.size) = true := by kernel_rfl
  have hsz : ∃ n, Try.prog.types.size + 1 = n + 2 := ⟨Try.prog.types.size - 1, by have := of_decide_eq_true h0; omega⟩
  obtain ⟨n, hn⟩ := hsz
  have hf : (valK x).formed Try.prog 48 = true := by
    have c48 : Try.prog.cellsOf 48 = 5 := by kernel_rfl
    simp [Value.formed, valK, Try.underlying48, c48]
  refine ⟨.string (keyBytes [.int .u32 x.src, .int .u32 x.dst, .int .i64 x.proto, .int .i64 x.sport, .int .i64 x.dport]), ?_⟩
  unfold keyOf
  rw [Try.underlying48]
  simp only [hk, hf, Bool.and_self, if_true, hn]
  rw [show (valK x).cells.toList = [.int .u32 x.src, .int .u32 x.dst, .int .i64 x.proto, .int .i64 x.sport, .int .i64 x.dport] from rfl, keyLits48 n x h]
  rfl

theorem valK_inj {x y : Ky} (h : valK x = valK y) : x = y := by
  obtain ⟨a1, a2, a3, a4, a5⟩ := x
  obtain ⟨b1, b2, b3, b4, b5⟩ := y
  simpa [valK] using h

/-- A map from keys to their places. -/
def entry (j : Nat) (k : Ky) : MapEntry := ⟨valK k, .int .i64 (j : Int), j⟩
def PlacesAt (w : World) (b : Nat) (ks : List Ky) : Prop := w.heap[b]? = some (.map (ks.mapIdx entry).toArray ks.length)

section
variable {w : World} {b : Nat} {ks : List Ky} {x : Ky}
theorem entries_get (ks : List Ky) (j : Nat) : (ks.mapIdx entry)[j]? = (ks[j]?).map (entry j) := by rw [List.getElem?_mapIdx]
theorem entries_ok (hk : ∀ k ∈ ks, k.Ok) : ∀ e ∈ ks.mapIdx entry, ∃ l, keyOf Try.prog 48 e.key = some l := by
  intro e he
  obtain ⟨j, hj, rfl⟩ := List.getElem_of_mem he
  rw [List.getElem_mapIdx]
  exact keyOf48 _ (hk _ (List.getElem_mem _))

theorem find_hit (hk : ∀ k ∈ ks, k.Ok) (hx : x.Ok) (hn : ks.Pairwise (· ≠ ·)) {j : Nat} (hj : ks[j]? = some x) :
    (Instr.findKey 48 (valK x) (ks.mapIdx entry)).run Try.prog w = .ok (some (j, .int .i64 (j : Int))) w := by
  obtain ⟨l, hl⟩ := keyOf48 x hx
  rcases law48.find w hl (ks.mapIdx entry) (entries_ok hk) with ⟨_, h2⟩ | ⟨i, e, h1, h2, h3⟩
  · exfalso
    have hm : entry j x ∈ ks.mapIdx entry := List.mem_of_getElem? (by rw [entries_get, hj]; rfl)
    exact h2 _ hm rfl
  · rw [h1]
    rw [entries_get] at h2
    cases hi : ks[i]? with
    | none => rw [hi] at h2; cases h2
    | some y =>
      rw [hi] at h2
      have he : entry i y = e := by simpa using h2
      subst he
      have hy : y = x := valK_inj h3
      subst hy
      have : i = j := by
        obtain ⟨hi1, hi2⟩ := List.getElem?_eq_some_iff.1 hi
        obtain ⟨hj1, hj2⟩ := List.getElem?_eq_some_iff.1 hj
        have hp := List.pairwise_iff_getElem.1 hn
        rcases Nat.lt_trichotomy i j with h | h | h
        · exact absurd (hi2.trans hj2.symm) (hp i j hi1 hj1 h)
        · exact h
        · exact absurd (hj2.trans hi2.symm) (hp j i hj1 hi1 h)
      subst this
      rfl
theorem find_miss (hk : ∀ k ∈ ks, k.Ok) (hx : x.Ok) (hn : ∀ k ∈ ks, k ≠ x) : (Instr.findKey 48 (valK x) (ks.mapIdx entry)).run Try.prog w = .ok none w := by
  obtain ⟨l, hl⟩ := keyOf48 x hx
  rcases law48.find w hl (ks.mapIdx entry) (entries_ok hk) with ⟨h1, _⟩ | ⟨i, e, h1, h2, h3⟩
  · exact h1
  · exfalso
    rw [entries_get] at h2
    cases hi : ks[i]? with
    | none => rw [hi] at h2; cases h2
    | some y =>
      rw [hi] at h2
      have he : entry i y = e := by simpa using h2
      subst he
      exact hn y (List.mem_of_getElem? hi) (valK_inj h3)

theorem lookup_hit (h : PlacesAt w b ks) (hk : ∀ k ∈ ks, k.Ok) (hx : x.Ok) (hn : ks.Pairwise (· ≠ ·)) {j : Nat} (hj : ks[j]? = some x) :
    (Instr.lookup 132 (.map (some b)) (valK x) true).run Try.prog w = .ok (.tuple #[.int .i64 (j : Int), .bool true]) w := by
  obtain ⟨l, hl⟩ := keyOf48 x hx
  simp [Instr.lookup, run_underlying Try.underlying132, MapKept.run_getObj_map h, law48.check w _ hl, find_hit hk hx hn hj, Result.andThen]
theorem lookup_miss (h : PlacesAt w b ks) (hk : ∀ k ∈ ks, k.Ok) (hx : x.Ok) (hn : ∀ k ∈ ks, k ≠ x) :
    (Instr.lookup 132 (.map (some b)) (valK x) true).run Try.prog w = .ok (.tuple #[.int .i64 0, .bool false]) w := by
  obtain ⟨l, hl⟩ := keyOf48 x hx
  simp [Instr.lookup, run_underlying Try.underlying132, MapKept.run_getObj_map h, law48.check w _ hl, find_miss hk hx hn, Try.zeroValue3, Result.andThen]
theorem update_miss (h : PlacesAt w b ks) (hk : ∀ k ∈ ks, k.Ok) (hx : x.Ok) (hn : ∀ k ∈ ks, k ≠ x) :
    ∃ w', (Instr.mapUpdate 132 (.map (some b)) (valK x) (.int .i64 (ks.length : Int))).run Try.prog w = .ok () w' ∧ PlacesAt w' b (ks ++ [x]) ∧ Foot (fun k => k = b) w w' := by
  obtain ⟨l, hl⟩ := keyOf48 x hx
  have hlt : b < w.heap.size := blk_lt h
  refine ⟨{ w with heap := w.heap.setIfInBounds b (.map ((ks.mapIdx entry).toArray.push (entry ks.length x)) (ks.length + 1)) }, ?_, ?_, ⟨rfl, rfl, rfl, by simp, fun k hk' hn' => ?_⟩⟩
  · simp [Instr.mapUpdate, run_underlying Try.underlying132, MapKept.run_getObj_map h, law48.check w _ hl, find_miss hk hx hn, MapKept.run_setObj_map _ h, Result.andThen, entry]
  · unfold PlacesAt
    rw [List.mapIdx_concat]
    simp [hlt]
  · show (w.heap.setIfInBounds b _)[k]? = _
    rw [Array.getElem?_setIfInBounds, if_neg (fun e => hn' e.symm)]
end

section
variable {P : Program} (w : World) {ops : Array Oper} {rest : List Oper} {o : Oper} {a : Act} {Q : Exit → Act → World → Prop}
/-- A lookup at the operation, by its run. -/
theorem wpList_lookup_run (hg : o.guard = none) (m x : Operand) (t : TypeId) (ok : Bool) (hop : o.op = Op.lookup t m x ok) (mv key v : Value) (hm : a.eval m = mv) (hx : a.eval x = key)
    (hrun : (Instr.lookup t mv key ok).run P w = .ok v w) (hK : wpList P ops Q rest (a.put o.dst v) w) : wpList P ops Q (o :: rest) a w := by
  refine wpList_plain hg fun K' hK' => ?_
  unfold Oper.wp
  simp [execOp, hop, hm, hx, hrun, Result.andThen]
  exact hK' _ _ hK
theorem wpList_update_run (hg : o.guard = none) (m x v : Operand) (t : TypeId) (hop : o.op = Op.mapUpdate t m x v) (mv key val : Value) (hm : a.eval m = mv) (hx : a.eval x = key) (hv : a.eval v = val) {w' : World}
    (hrun : (Instr.mapUpdate t mv key val).run P w = .ok () w') (hK : wpList P ops Q rest (a.put o.dst undef) w') : wpList P ops Q (o :: rest) a w := by
  refine wpList_plain hg fun K' hK' => ?_
  unfold Oper.wp
  simp [execOp, hop, hm, hx, hv, hrun, Result.andThen]
  exact hK' _ _ hK
end

end Go.Proofs.Ytcmgfmpmapnckaa
