/- Walks of package strings' Builder, as a variable of its own or in cursor's Writer. -/
import Derived.Test.YtcmgfmpmapnckaaReg
import Derived.Lib.Builder
import Derived.Lib.AppendStr
import Derived.Lib.UnsafeStr
import Derived.Lib.Strings
import Derived.Laws.Externs
import Derived.RegionTactic
namespace Go.Proofs.Ytcmgfmpmapnckaa
open Go.RowKit
set_option linter.unusedVariables false
set_option linter.unusedSimpArgs false

/-- A block of bytes. -/
def isRow (w : World) (k : Nat) : Prop := ∃ cs fr, w.heap[k]? = some (.cells cs 5 fr)

/-- What a writer's call may turn: its own block b, and rows of bytes, from B on. -/
structure WStep (B b : Nat) (w w' : World) : Prop where
  os : w'.os = w.os
  tape : w'.tape = w.tape
  output : w'.output = w.output
  size : w.heap.size ≤ w'.heap.size
  block : ∀ k, k < w.heap.size → (k < B ∨ (k ≠ b ∧ ¬ isRow w k)) → w'.heap[k]? = w.heap[k]?

theorem WStep.refl (B b : Nat) (w : World) : WStep B b w w := ⟨rfl, rfl, rfl, Nat.le_refl _, fun _ _ _ => rfl⟩

theorem WStep.trans {B b : Nat} {x y z : World} (h : WStep B b x y) (k : WStep B b y z) : WStep B b x z :=
  ⟨k.os.trans h.os, k.tape.trans h.tape, k.output.trans h.output, Nat.le_trans h.size k.size, fun i hi hc => by
    have e := h.block i hi hc
    refine (k.block i (Nat.lt_of_lt_of_le hi h.size) ?_).trans e
    rcases hc with hc | ⟨hc, hr⟩
    · exact .inl hc
    · exact .inr ⟨hc, fun ⟨cs, fr, he⟩ => hr ⟨cs, fr, e.symm.trans he⟩⟩⟩

theorem WStep.below {B b : Nat} {w w' : World} (h : WStep B b w w') (hB : B ≤ w.heap.size) : Below B w w' :=
  ⟨h.os, h.tape, h.output, h.size, fun k hk => h.block k (Nat.lt_of_lt_of_le hk hB) (.inl hk)⟩

theorem WStep.keep {B b : Nat} {w w' : World} (h : WStep B b w w') {k : Nat} {cs : Array Value} {T : TypeId} {fr : Nat × Nat} (hk : w.heap[k]? = some (.cells cs T fr)) (hT : T ≠ 5) (hb : k ≠ b) :
    w'.heap[k]? = some (.cells cs T fr) :=
  (h.block k (blk_lt hk) (.inr ⟨hb, fun ⟨cs', fr', he⟩ => by rw [hk] at he; simp at he; exact hT he.2.1⟩)).trans hk

theorem WStep.drew {B b : Nat} {x w : World} (h : WStep B b x w) : WStep B b x w.drew := ⟨h.os, h.tape, h.output, h.size, h.block⟩
theorem WStep.drewN {B b : Nat} {x w : World} (h : WStep B b x w) (n : Nat) : WStep B b x (w.drewN n) := ⟨h.os, h.tape, h.output, h.size, h.block⟩

theorem WStep.alloc {B b : Nat} {x w : World} (h : WStep B b x w) (o : Obj) : WStep B b x (w.alloc o) :=
  h.trans ⟨rfl, rfl, rfl, by simp, fun k hk _ => Below.heap_alloc _ _ _ hk⟩
theorem WStep.setCell {B b : Nat} {x w : World} (h : WStep B b x w) {p : Addr} (hB : B ≤ p.block) (hp : p.block = b ∨ isRow w p.block) (u : Value) : WStep B b x (w.setCell p u) :=
  h.trans ⟨rfl, rfl, rfl, by simp [World.setCell], fun k _ hc => Below.heap_setCell _ _ _ _ (fun e => by
    subst e
    rcases hc with hc | ⟨h1, h2⟩
    · omega
    · exact hp.elim h1 h2)⟩

/-- The builder's own row may turn, and what is new. -/
theorem WStep.grown {B b : Nat} {x w w' : World} {v : Value} {n : Nat} {xs : List Value} (h : WStep B b x w) (hg : w.grownBy w' v.ownBlock) (ho : w.ownsRow B 5 1 v n xs) : WStep B b x w' :=
  h.trans ⟨hg.os, hg.tape, hg.output, hg.size, fun k hk hc => hg.block k hk (fun e => by
    rcases ho.2 with ⟨rfl, _⟩ | ⟨g, cap, cur, rfl, hBg, hgg, _⟩
    · simp [Value.ownBlock] at e
    · simp only [Value.ownBlock, Option.some.injEq] at e
      subst e
      rcases hc with hc | ⟨_, hc⟩
      · omega
      · exact hc ⟨_, _, hgg⟩)⟩

/-- Where a Builder may lie: alone, or in a Writer. -/
def bdPlace (T : TypeId) (o n : Nat) : Prop := (T = 101 ∧ o = 0 ∧ n = 2) ∨ (T = 103 ∧ o = 1 ∧ n = 3)

/-- A Builder at a block's place o, that holds the bytes l. -/
def BdAt (B : Nat) (w : World) (b : Nat) (T : TypeId) (o : Nat) (cs : Array Value) (l : List UInt8) : Prop :=
  bdPlace T o cs.size ∧ B ≤ b ∧ w.heap[b]? = some (.cells cs T (0, 0)) ∧ (cs[o]? = some (.pointer none) ∨ cs[o]? = some (.pointer (some ⟨b, o, none⟩))) ∧
  ∃ v, cs[o + 1]? = some v ∧ w.ownsRow B 5 1 v l.length (Lib.byteCells l) ∧ (l = [] → v = .slice none 0 0)

theorem bd_info99 : Try.prog.underlying 99 = some (.pointer 101) := by kernel_rfl
theorem bd_info206 : Try.prog.underlying 206 = some .unsafePointer := by kernel_rfl
theorem bd_size101 : ∃ j, Try.prog.info? 101 = some j ∧ j.size = 2 := by
  have h : (Try.prog.info? 101).map (·.size) = some 2 := by kernel_rfl
  obtain ⟨j, h1, h2⟩ := Option.map_eq_some_iff.1 h
  exact ⟨j, h1, h2⟩
theorem bd_lies {T : TypeId} {o n : Nat} (h : bdPlace T o n) : liesAt Try.prog Try.prog.depth T (n / Try.prog.cellsOf T) o 101 1 = true := by
  rcases h with ⟨rfl, rfl, rfl⟩ | ⟨rfl, rfl, rfl⟩
  · kernel_rfl
  · kernel_rfl
theorem bdPlace.lt {T : TypeId} {o n : Nat} (h : bdPlace T o n) : o + 1 < n := by
  rcases h with ⟨rfl, rfl, rfl⟩ | ⟨rfl, rfl, rfl⟩ <;> decide
theorem bdPlace.ne {T : TypeId} {o n : Nat} (h : bdPlace T o n) : T ≠ 5 := by
  rcases h with ⟨rfl, rfl, rfl⟩ | ⟨rfl, rfl, rfl⟩ <;> decide

theorem noEscape_name : (Try.prog.funcs[144]?).map (fun f => (f.name, f.body.isNone)) = some ("internal/abi.NoEscape", true) := by kernel_rfl

set_option maxHeartbeats 1000000 in
set_option maxRecDepth 100000 in
theorem copyCheck_used (b o : Nat) (w : World) (h0 : w.cell? ⟨b, o, none⟩ = some (.pointer (some ⟨b, o, none⟩))) :
    Calls Try.prog 120 #[.pointer (some ⟨b, o, none⟩)] w fun e w' => e = .returned (.tuple #[]) ∧ w = w' := by
  obtain ⟨j, hj, _⟩ := bd_size101
  go_enter Try.func120, Try.ntmps120
  go_wp2
  rw [Lib.run_neq_ptr_same w _ bd_info99 hj]
  go_wp2
  go_end0
  exact ⟨rfl, rfl⟩

set_option maxHeartbeats 1000000 in
set_option maxRecDepth 100000 in
theorem copyCheck_fresh (b o : Nat) (T : TypeId) (cs : Array Value) (w : World) (hp : bdPlace T o cs.size) (hb : w.heap[b]? = some (.cells cs T (0, 0))) (h0 : cs[o]? = some (.pointer none)) :
    Calls Try.prog 120 #[.pointer (some ⟨b, o, none⟩)] w fun e w' => e = .returned (.tuple #[]) ∧ w' = w.setCell ⟨b, o, none⟩ (.pointer (some ⟨b, o, none⟩)) := by
  obtain ⟨j, hj, hjs⟩ := bd_size101
  have hlt := hp.lt
  have c0 : w.cell? ⟨b, o, none⟩ = some (.pointer none) := (blk_cell hb o).trans h0
  have f0 : w.frozen? ⟨b, o, none⟩ = false := blk_free hb o
  have hsh : w.shape? b = some (T, cs.size) := by simp [World.shape?, hb]
  have Hb := Lib.hid hb; clear hb
  have Hs := Lib.hid hsh; clear hsh
  have H0 := Lib.hid h0; clear h0
  go_enter Try.func120, Try.ntmps120
  go_wp2
  rw [Lib.run_to_unsafe w ⟨b, o, none⟩ bd_info99 bd_info206 hj (by rw [hjs]; decide) Hs.out (by show o < cs.size; omega)]
  simp only [Result.andThen]
  rw [Oper.upon_value]
  go_wp2
  rw [run_callFunc_extern Try.func144 (by kernel_rfl) (by kernel_rfl) (by kernel_rfl) (e := Extern.AbiNoEscape.same) (by kernel_rfl)]
  rw [Lib.run_noEscape]
  simp only [Result.andThen]
  rw [Oper.upon_value]
  go_wp2
  rw [Lib.run_from_unsafe w ⟨b, o, none⟩ bd_info206 bd_info99 hj Hs.out (bd_lies hp)]
  simp only [Result.andThen]
  rw [Oper.upon_value]
  go_wp2
  go_end0
  exact ⟨rfl, rfl⟩


theorem own_set {B : Nat} {w : World} {b : Nat} {T : TypeId} {cs : Array Value} {fr : Nat × Nat} {v : Value} {n : Nat} {xs : List Value} (hown : w.ownsRow B 5 1 v n xs) (hb : w.heap[b]? = some (.cells cs T fr)) (hT : T ≠ 5) (i : Nat) (u : Value) :
    (w.setCell ⟨b, i, none⟩ u).ownsRow B 5 1 v n xs :=
  hown.kept (row := some b) ⟨rfl, rfl, rfl, by simp [World.setCell], fun k _ hk => Below.heap_setCell _ _ _ _ (fun e => hk (by simp [e]))⟩ (.inr (Lib.ownBlock_ne hown hb hT))

theorem own_alloc {B : Nat} {w : World} {v : Value} {n : Nat} {xs : List Value} (hown : w.ownsRow B 5 1 v n xs) (o : Obj) : (w.alloc o).ownsRow B 5 1 v n xs := hown.alloc o

theorem set_same {cs : Array Value} {i : Nat} {u : Value} (h : cs[i]? = some u) : cs.setIfInBounds i u = cs := by
  apply Array.ext
  · simp
  · intro k h1 h2
    rw [Array.getElem_setIfInBounds]
    split
    · rename_i e; subst e; rw [Array.getElem?_eq_getElem h2] at h; exact (Option.some.inj h).symm
    · rfl

/-- copyCheck: behind it the builder holds its own address; its bytes are as they were. -/
theorem copyCheck_any (B b o : Nat) (T : TypeId) (cs : Array Value) (l : List UInt8) (w : World) (h : BdAt B w b T o cs l) :
    Calls Try.prog 120 #[.pointer (some ⟨b, o, none⟩)] w fun e w' => e = .returned (.tuple #[]) ∧ BdAt B w' b T o (cs.setIfInBounds o (.pointer (some ⟨b, o, none⟩))) l ∧ WStep B b w w' := by
  obtain ⟨hp, hB, hb, h0, v, hv, hown, hnil⟩ := h
  have hlt := hp.lt
  rcases h0 with h0 | h0
  · refine (copyCheck_fresh b o T cs w hp hb h0).mono ?_
    rintro e w' ⟨rfl, rfl⟩
    refine ⟨rfl, ⟨by simpa using hp, hB, blk_set hb o _, .inr ?_, v, ?_, own_set hown hb hp.ne _ _, hnil⟩, (WStep.refl B b w).setCell (p := ⟨b, o, none⟩) hB (.inl rfl) _⟩
    · simp [Array.getElem?_setIfInBounds]; omega
    · rw [Array.getElem?_setIfInBounds_ne (by omega)]; exact hv
  · refine (copyCheck_used b o w ((blk_cell hb o).trans h0)).mono ?_
    rintro e w' ⟨rfl, rfl⟩
    rw [set_same h0]
    exact ⟨rfl, ⟨hp, hB, hb, .inr h0, v, hv, hown, hnil⟩, WStep.refl _ _ _⟩

theorem bd_info5 : (Try.prog.info? 5).map (fun i => (i.zero, i.size, i.bytes)) = some (some (.int .u8 0), 1, 1) := by kernel_rfl

/-- Behind an append the new buffer is laid into the builder. -/
theorem BdAt.put {B b o : Nat} {T : TypeId} {cs : Array Value} {w : World} {v' : Value} {l : List UInt8} (hp : bdPlace T o cs.size) (hB : B ≤ b) (hb : w.heap[b]? = some (.cells cs T (0, 0)))
    (h0 : cs[o]? = some (.pointer none) ∨ cs[o]? = some (.pointer (some ⟨b, o, none⟩))) (hown : w.ownsRow B 5 1 v' l.length (Lib.byteCells l)) (hnil : l = [] → v' = .slice none 0 0) :
    BdAt B (w.setCell ⟨b, o + 1, none⟩ v') b T o (cs.setIfInBounds (o + 1) v') l := by
  have hlt := hp.lt
  refine ⟨by simpa using hp, hB, blk_set hb (o + 1) _, ?_, v', ?_, own_set hown hb hp.ne _ _, hnil⟩
  · rw [Array.getElem?_setIfInBounds_ne (by omega)]; exact h0
  · simp [Array.getElem?_setIfInBounds]; omega

theorem byteCells_snoc (l : List UInt8) (c : UInt8) : Lib.byteCells (l ++ [c]) = Lib.byteCells l ++ [.int .u8 c.toNat] := by simp [Lib.byteCells]
theorem byteCells_append (l m : List UInt8) : Lib.byteCells (l ++ m) = Lib.byteCells l ++ Lib.byteCells m := by simp [Lib.byteCells]

set_option maxHeartbeats 2000000 in
set_option maxRecDepth 100000 in
theorem writeByte_any (B b o : Nat) (T : TypeId) (cs : Array Value) (l : List UInt8) (c : UInt8) (z : Int) (hz : z = c.toNat) (w : World) (h : BdAt B w b T o cs l) (hlen : l.length + 1 ≤ 140737488355328) (hBw : B ≤ w.heap.size) :
    Calls Try.prog 125 #[.pointer (some ⟨b, o, none⟩), .int .u8 z] w fun e w' => e = .returned .nilIface ∧ (∃ v, BdAt B w' b T o ((cs.setIfInBounds o (.pointer (some ⟨b, o, none⟩))).setIfInBounds (o + 1) v) (l ++ [c])) ∧ WStep B b w w' := by
  obtain ⟨i0, hi, hz0, hz1, hz2⟩ := info_parts bd_info5
  have hplace := Lib.hid h.1
  have HZ := Lib.hid hz; clear hz
  have H := Lib.hid h; clear h
  go_enter Try.func125, Try.ntmps125
  go_wp2_with (go_at_call 120; refine (copyCheck_any B b o T cs l _ H.out).mono ?_)
  rintro e w1 ⟨rfl, h1, hs1⟩
  obtain ⟨hp, hB, hb, h0, v, hv, hown, hnil⟩ := h1
  generalize hds : cs.setIfInBounds o (.pointer (some ⟨b, o, none⟩)) = ds at *
  have HD := Lib.hid hds; clear hds
  have c1 : w1.cell? ⟨b, o + 1, none⟩ = some v := (blk_cell hb (o + 1)).trans hv
  have HB := Lib.hid hb; clear hb
  have HV := Lib.hid hv; clear hv
  have H0 := Lib.hid h0; clear h0
  go_wp2_with (at_builtin; refine wpList_append_own _ rfl _ _ 35 rfl B 5 i0 (.int .u8 0) 1 1 Try.underlying35 hi hz0 hz1 hz2 rfl (by decide) _ _ _ rfl (hown.alloc _) ⟨w1.heap.size, 0, none⟩ 1 1 [.int .u8 z] rfl rfl ?c1 ?c2 ?c3 ?c4 ?c5 ?_)
  case c1 =>
    intro j u hj
    match j, hj with
    | 0, hj => simp at hj; subst hj; simp [Addr.add]
  case c2 => intro u hu; simp at hu; subst hu; rfl
  case c3 => unfold maxLen; omega
  case c4 => omega
  case c5 => have := hs1.size; simp; omega
  intro v' w2 hown' hgrow _
  clear hnil
  have hlt := blk_lt HB.out
  have hT := hp.ne
  have hb2 : w2.heap[b]? = some (.cells ds T (0, 0)) := by
    rw [hgrow.block b (by simp; omega) (fun e => Lib.ownBlock_ne hown HB.out hT e.symm), Lib.alloc_old w1 _ b hlt]
    exact HB.out
  have d1 : w2.cell? ⟨b, o + 1, none⟩ = some v := (blk_cell hb2 (o + 1)).trans HV.out
  have f1 : w2.frozen? ⟨b, o + 1, none⟩ = false := blk_free hb2 (o + 1)
  have HB2 := Lib.hid hb2; clear hb2
  obtain ⟨g, cap, rfl⟩ : ∃ g cap, v' = .slice (some ⟨g, 0, none⟩) (l.length + 1) cap := by
    rcases hown'.2 with ⟨_, h0⟩ | ⟨g, cap, cur, hv, _⟩
    · omega
    · exact ⟨g, cap, hv⟩
  go_wp2
  go_ret
  rw [HD.out]
  refine ⟨rfl, ⟨_, BdAt.put hp hB HB2.out H0.out ?_ (by simp)⟩, ?_⟩
  · rw [byteCells_snoc, ← HZ.out]; simpa using hown'
  · exact ((hs1.alloc _).grown hgrow (hown.alloc _)).setCell (p := ⟨b, o + 1, none⟩) hB (.inl rfl) _

set_option maxHeartbeats 2000000 in
set_option maxRecDepth 100000 in
theorem writeString_any (B b o : Nat) (T : TypeId) (cs : Array Value) (l : List UInt8) (s : ByteArray) (w : World) (h : BdAt B w b T o cs l) (hlen : l.length + s.size ≤ 140737488355328) (hBw : B ≤ w.heap.size) :
    Calls Try.prog 83 #[.pointer (some ⟨b, o, none⟩), .string s] w fun e w' => e = .returned (.tuple #[.int .i64 s.size, .nilIface]) ∧ (∃ v, BdAt B w' b T o ((cs.setIfInBounds o (.pointer (some ⟨b, o, none⟩))).setIfInBounds (o + 1) v) (l ++ s.data.toList)) ∧ WStep B b w w' := by
  obtain ⟨i0, hi, hz0, hz1, hz2⟩ := info_parts bd_info5
  have H := Lib.hid h; clear h
  go_enter Try.func83, Try.ntmps83
  go_wp2_with (go_at_call 120; refine (copyCheck_any B b o T cs l _ H.out).mono ?_)
  rintro e w1 ⟨rfl, h1, hs1⟩
  obtain ⟨hp, hB, hb, h0, v, hv, hown, hnil⟩ := h1
  generalize hds : cs.setIfInBounds o (.pointer (some ⟨b, o, none⟩)) = ds at *
  have HD := Lib.hid hds; clear hds
  have c1 : w1.cell? ⟨b, o + 1, none⟩ = some v := (blk_cell hb (o + 1)).trans hv
  have HB := Lib.hid hb; clear hb
  have HV := Lib.hid hv; clear hv
  have H0 := Lib.hid h0; clear h0
  go_wp2_with (at_builtin; refine Lib.wpList_append_own_string _ rfl _ _ 35 9 rfl B 5 i0 Try.underlying35 Try.underlying9 hi hz0 hz1 hz2 _ _ _ rfl hown s rfl ?c3 ?c4 ?c5 ?_)
  case c3 => unfold maxLen; omega
  case c4 => omega
  case c5 => have := hs1.size; omega
  intro v' w2 hown' hgrow hiff
  have HN := Lib.hid hnil; clear hnil
  have HI := Lib.hid hiff; clear hiff
  have hlt := blk_lt HB.out
  have hT := hp.ne
  have hb2 : w2.heap[b]? = some (.cells ds T (0, 0)) := by
    rw [hgrow.block b (by omega) (fun e => Lib.ownBlock_ne hown HB.out hT e.symm)]
    exact HB.out
  have d1 : w2.cell? ⟨b, o + 1, none⟩ = some v := (blk_cell hb2 (o + 1)).trans HV.out
  have f1 : w2.frozen? ⟨b, o + 1, none⟩ = false := blk_free hb2 (o + 1)
  have HB2 := Lib.hid hb2; clear hb2
  obtain ⟨ao, n', cap, rfl⟩ : ∃ ao n' cap, v' = .slice ao n' cap := by
    rcases hown'.2 with ⟨hv, _⟩ | ⟨g, cap, cur, hv, _⟩
    · exact ⟨_, _, _, hv⟩
    · exact ⟨_, _, _, hv⟩
  go_wp2
  go_ret2
  rw [HD.out]
  refine ⟨rfl, ⟨_, BdAt.put hp hB HB2.out H0.out ?_ (fun hl => ?_)⟩, ?_⟩
  · rw [byteCells_append]
    have e : s.size = s.data.toList.length := Array.length_toList.symm
    rw [List.length_append, ← e]
    exact hown'
  · obtain ⟨e1, e2⟩ := List.append_eq_nil_iff.1 hl
    exact HI.out.2 ⟨HN.out e1, by first | (rw [show s.size = s.data.toList.length from Array.length_toList.symm, e2]; rfl) | (apply ByteArray.ext; simpa using e2)⟩
  · exact (hs1.grown hgrow hown).setCell (p := ⟨b, o + 1, none⟩) hB (.inl rfl) _

set_option maxHeartbeats 1000000 in
set_option maxRecDepth 100000 in
theorem bdLen_any (B b o : Nat) (T : TypeId) (cs : Array Value) (l : List UInt8) (w : World) (h : BdAt B w b T o cs l) :
    Calls Try.prog 91 #[.pointer (some ⟨b, o, none⟩)] w fun e w' => e = .returned (.int .i64 l.length) ∧ w = w' := by
  obtain ⟨hp, hB, hb, h0, v, hv, hown, hnil⟩ := h
  obtain ⟨ao, cap, rfl⟩ : ∃ ao cap, v = .slice ao l.length cap := by
    rcases hown.2 with ⟨hv, h0⟩ | ⟨g, cap, cur, hv, _⟩
    · exact ⟨none, 0, by rw [hv, h0]⟩
    · exact ⟨_, _, hv⟩
  clear hnil
  have c1 : w.cell? ⟨b, o + 1, none⟩ = some (.slice ao l.length cap) := (blk_cell hb (o + 1)).trans hv
  have HB := Lib.hid hb; clear hb
  have HV := Lib.hid hv; clear hv
  have H0 := Lib.hid h0; clear h0
  go_enter Try.func91, Try.ntmps91
  go_wp2
  go_ret
  exact ⟨rfl, rfl⟩


theorem bd_cells5 : Try.prog.cellsOf 5 = 1 := by kernel_rfl

theorem WStep.freeze {B b : Nat} {x w : World} (h : WStep B b x w) {g : Nat} (hB : B ≤ g) (hg : isRow w g) (n : Nat) : WStep B b x (w.freeze ⟨g, 0, none⟩ n) := by
  unfold World.freeze
  split
  · exact h
  · refine h.trans ⟨rfl, rfl, rfl, by simp, fun k _ hc => ?_⟩
    show (w.heap.modify g _)[k]? = _
    rw [Array.getElem?_modify, if_neg]
    intro e
    subst e
    rcases hc with hc | ⟨_, hc⟩
    · omega
    · exact hc hg

set_option maxHeartbeats 1000000 in
set_option maxRecDepth 100000 in
theorem bdString_some (B b o : Nat) (T : TypeId) (cs : Array Value) (l : List UInt8) (w : World) (h : BdAt B w b T o cs l) (hne : l ≠ []) :
    Calls Try.prog 84 #[.pointer (some ⟨b, o, none⟩)] w fun e w' => e = .returned (.string ⟨l.toArray⟩) ∧ WStep B b w w' := by
  obtain ⟨hp, hB, hb, h0, v, hv, hown, hnil⟩ := h
  have hl0 : l.length ≠ 0 := by simpa using hne
  obtain ⟨g, cap, cur, rfl, hbg, hg, hnc, hcm, hcs, htake⟩ : ∃ g cap cur, v = .slice (some ⟨g, 0, none⟩) l.length cap ∧ B ≤ g ∧ w.heap[g]? = some (.cells cur 5 (0, 0)) ∧ l.length ≤ cap ∧ cap ≤ maxLen ∧ cur.size = cap * 1 ∧ cur.toList.take (l.length * 1) = Lib.byteCells l := by
    rcases hown.2 with ⟨_, hz⟩ | ⟨g, cap, cur, hv, r⟩
    · exact absurd hz hl0
    · exact ⟨g, cap, cur, hv, r⟩
  have hb' : w.drew.heap[b]? = some (.cells cs T (0, 0)) := hb
  have c1 : w.drew.cell? ⟨b, o + 1, none⟩ = some (.slice (some ⟨g, 0, none⟩) l.length cap) := (blk_cell hb' (o + 1)).trans hv
  have hSD : (Builtin.unsafeSliceData_ #[35] 188 #[.slice (some ⟨g, 0, none⟩) l.length cap]).run Try.prog w.drew = .ok (.pointer (some ⟨g, 0, none⟩)) w.drew :=
    Lib.run_unsafeSliceData_row _ _ _ _ _ _ (by omega)
  have hUS : (Builtin.unsafeString_ #[188, 3] 9 #[.pointer (some ⟨g, 0, none⟩), .int .i64 l.length]).run Try.prog w.drew = .ok (.string ⟨l.toArray⟩) (w.drew.freeze ⟨g, 0, none⟩ l.length) := by
    refine Lib.run_unsafeString_row w.drew 188 3 9 5 Try.underlying188 bd_cells5 g cur.size (by have hg' : w.drew.heap[g]? = some (.cells cur 5 (0, 0)) := hg; simp [World.shape?, hg']) l hne (by omega) (by unfold maxLen at hcm; omega) ?_
    intro j x hx
    have := hown.cells (g := g) rfl j (.int .u8 x.toNat) (by simp [Lib.byteCells, hx])
    exact this
  have hgB : isRow w.drew g := ⟨_, _, hg⟩
  clear hnil hb' hb hown hcs htake hg hnc hcm h0
  have HV := Lib.hid hv; clear hv
  go_enter Try.func84, Try.ntmps84
  go_wp2
  go_region
  all_goals (go_wp2; go_ret; exact ⟨rfl, ((WStep.refl B b w).drew).freeze hbg hgB _⟩)

set_option maxHeartbeats 1000000 in
set_option maxRecDepth 100000 in
theorem bdString_nil (B b o : Nat) (T : TypeId) (cs : Array Value) (w : World) (h : BdAt B w b T o cs []) :
    Calls Try.prog 84 #[.pointer (some ⟨b, o, none⟩)] w fun e w' => e = .returned (.string ⟨#[]⟩) ∧ WStep B b w w' := by
  obtain ⟨hp, hB, hb, h0, v, hv, hown, hnil⟩ := h
  obtain rfl := hnil rfl
  have hb' : w.drew.heap[b]? = some (.cells cs T (0, 0)) := hb
  have c1 : w.drew.cell? ⟨b, o + 1, none⟩ = some (.slice none 0 0) := (blk_cell hb' (o + 1)).trans hv
  have hSD : (Builtin.unsafeSliceData_ #[35] 188 #[.slice none 0 0]).run Try.prog w.drew = .ok (.pointer none) w.drew := rfl
  have hUS : (Builtin.unsafeString_ #[188, 3] 9 #[.pointer none, .int .i64 0]).run Try.prog w.drew = .ok (.string .empty) w.drew := Lib.run_unsafeString_none w.drew _ _ _ none
  clear hnil hb' hb hown h0
  have HV := Lib.hid hv; clear hv
  go_enter Try.func84, Try.ntmps84
  go_wp2
  go_region
  all_goals (go_wp2; go_ret; exact ⟨rfl, (WStep.refl B b w).drew⟩)

theorem bdString_any (B b o : Nat) (T : TypeId) (cs : Array Value) (l : List UInt8) (w : World) (h : BdAt B w b T o cs l) :
    Calls Try.prog 84 #[.pointer (some ⟨b, o, none⟩)] w fun e w' => e = .returned (.string ⟨l.toArray⟩) ∧ WStep B b w w' := by
  by_cases hne : l = []
  · subst hne; exact bdString_nil B b o T cs w h
  · exact bdString_some B b o T cs l w h hne

end Go.Proofs.Ytcmgfmpmapnckaa
