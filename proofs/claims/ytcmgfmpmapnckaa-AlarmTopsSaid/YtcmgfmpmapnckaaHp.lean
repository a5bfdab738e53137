/- Walks of package hole, part two: top, End, Bytes, last, few. -/
import Derived.Test.YtcmgfmpmapnckaaHo
namespace Go.Proofs.Ytcmgfmpmapnckaa
open Go.Shelf Go.RowKit Go.Lib Go.Sort
set_option linter.unusedVariables false
set_option linter.unusedSimpArgs false

theorem row_cells {B : Nat} {w : World} {v : Value} {d : Array Pc} (h : RowAt encP 3 150 B w v d) : ∃ (A : Option Addr) (cap : Nat), v = .slice A d.size cap ∧ (d.size = 0 ∨ ∃ g, A = some ⟨g, 0, none⟩) ∧
    ∀ g, A = some ⟨g, 0, none⟩ → B ≤ g ∧ g < w.heap.size ∧ (∃ cur, w.heap[g]? = some (.cells cur 150 (0, 0))) ∧ ∀ i, i < d.size → ∀ W, Below w.heap.size w W →
      W.cell? ⟨g, i * 3, none⟩ = some (.int .i64 d[i]!.frm) ∧ W.cell? ⟨g, i * 3 + 1, none⟩ = some (.string d[i]!.data) ∧ W.cell? ⟨g, i * 3 + 2, none⟩ = some (.bool d[i]!.more) := by
  obtain ⟨A, cap, rfl, hA, hf⟩ := h.form encP_len
  refine ⟨A, cap, rfl, hA, fun g hg => ?_⟩
  obtain ⟨h1, h2, h3, h4⟩ := hf g hg
  refine ⟨h1, h2, h3, fun i hi W hW => ?_⟩
  have e : ∀ c, W.cell? ⟨g, i * 3 + c, none⟩ = w.cell? ⟨g, i * 3 + c, none⟩ := fun c => hW.cell (p := ⟨g, i * 3 + c, none⟩) h2
  exact ⟨(e 0).trans ((h4 i hi 0 (by omega)).trans rfl), (e 1).trans ((h4 i hi 1 (by omega)).trans rfl), (e 2).trans ((h4 i hi 2 (by omega)).trans rfl)⟩

def topOf (e : Int) : Int := if e ≥ 0 then e else 65535
theorem top_any {b : Nat} {v : Value} {e : Int} (w : World) (h : w.heap[b]? = some (.cells #[v, .int .i64 e] 148 (0, 0))) :
    Calls Try.prog 85 #[.pointer (some ⟨b, 0, none⟩)] w fun r w' => r = .returned (.int .i64 (topOf e)) ∧ w = w' := by
  have hc1 : w.cell? ⟨b, 1, none⟩ = some (.int .i64 e) := (blk_cell h 1).trans rfl
  clear h
  by_cases he : e ≥ 0
  · have ht : topOf e = e := if_pos he
    rw [ht]; clear ht
    go_enter Try.func85, Try.ntmps85
    go_wp2
    go_ret
    exact ⟨rfl, rfl⟩
  · have ht : topOf e = 65535 := if_neg he
    rw [ht]; clear ht
    go_enter Try.func85, Try.ntmps85
    go_wp2
    go_ret
    exact ⟨rfl, rfl⟩

theorem end_some {b : Nat} {v : Value} {e : Int} (w : World) (h : w.heap[b]? = some (.cells #[v, .int .i64 e] 148 (0, 0))) (he : 0 ≤ e) :
    Calls Try.prog 39 #[.pointer (some ⟨b, 0, none⟩)] w fun r w' => r = .returned (.tuple #[.int .i64 e, .bool true]) ∧ w = w' := by
  have hc1 : w.cell? ⟨b, 1, none⟩ = some (.int .i64 e) := (blk_cell h 1).trans rfl
  clear h
  go_enter Try.func39, Try.ntmps39
  go_wp2
  go_ret2
  exact ⟨rfl, rfl⟩
theorem end_none {b : Nat} {v : Value} {e : Int} (w : World) (h : w.heap[b]? = some (.cells #[v, .int .i64 e] 148 (0, 0))) (he : e < 0) :
    Calls Try.prog 39 #[.pointer (some ⟨b, 0, none⟩)] w fun r w' => r = .returned (.tuple #[.int .i64 0, .bool false]) ∧ w = w' := by
  have hc1 : w.cell? ⟨b, 1, none⟩ = some (.int .i64 e) := (blk_cell h 1).trans rfl
  clear h
  go_enter Try.func39, Try.ntmps39
  go_wp2
  go_ret2
  exact ⟨rfl, rfl⟩

def sumTo (d : Array Pc) (i : Nat) : Nat := ((d.toList.take i).map (·.data.size)).sum
theorem take_snoc_d {α : Type} [Inhabited α] (d : Array α) {i : Nat} (hi : i < d.size) : d.toList.take (i + 1) = d.toList.take i ++ [d[i]!] := by
  rw [List.take_succ_eq_append_getElem (by simpa using hi)]
  simp [hi]
theorem sumTo_succ (d : Array Pc) {i : Nat} (hi : i < d.size) : sumTo d (i + 1) = sumTo d i + d[i]!.data.size := by
  unfold sumTo; rw [take_snoc_d d hi]; simp
theorem sumTo_le (d : Array Pc) (ok : ∀ i, i < d.size → d[i]!.Ok) : ∀ i, i ≤ d.size → sumTo d i ≤ i * 65535
  | 0, _ => Nat.le_refl _
  | i + 1, hi => by
    rw [sumTo_succ d hi, Nat.succ_mul]
    have := sumTo_le d ok i (by omega)
    have h := ok i (by omega)
    have := h.len; have := h.lo
    omega

set_option maxHeartbeats 800000 in
theorem bytes_any {B b : Nat} {v : Value} {d : Array Pc} {e : Int} (w : World) (h : BodyAt B w b v d e) :
    Calls Try.prog 38 #[.pointer (some ⟨b, 0, none⟩)] w fun r w' => r = .returned (.int .i64 (sumTo d d.size)) ∧ Below w.heap.size w w' := by
  obtain ⟨A, cap, rfl, hA, hf⟩ := row_cells h.row
  have hfew := h.few
  have hc0 : w.cell? ⟨b, 0, none⟩ = some (.slice A d.size cap) := (blk_cell h.blk 0).trans rfl
  have OK := Lib.hid h.ok
  have HA := Lib.hid hA
  have HF := Lib.hid hf
  clear h hA hf
  go_enter Try.func38, Try.ntmps38
  go_wp2
  go_loopg [3, 13] d.size (fun kx s3 s13 wr => ∃ (i : Nat), s13 = .int .i64 i ∧ s3 = .int .i64 (sumTo d i) ∧ i ≤ d.size ∧ d.size - i ≤ kx ∧ Below w.heap.size w wr)
  case atStart => exact ⟨0, rfl, rfl, Nat.zero_le _, Nat.le_refl _, Below.refl _ _⟩
  case round =>
    obtain ⟨i, rfl, rfl, hi, hkx, hb⟩ := hrel
    by_cases hlt : i < d.size
    · have hltz : (i : Int) < (d.size : Int) := by omega
      obtain ⟨g, rfl⟩ := HA.out.resolve_left (by omega)
      obtain ⟨_, hg, _, hcs⟩ := HF.out g rfl
      obtain ⟨c0, c1, c2⟩ := hcs i hlt _ hb
      have hsum := sumTo_succ d hlt
      have hle := sumTo_le d OK.out i (by omega)
      have hok := OK.out i hlt
      have hl : d[i]!.data.size ≤ 65535 := by have := hok.len; have := hok.lo; omega
      have hs2 : sumTo d i ≤ 70000000 := by omega
      have HS : Aside (sumTo d (i + 1) = sumTo d i + d[i]!.data.size) := hsum
      obtain ⟨p, hp⟩ : ∃ p, p = d[i]! := ⟨_, rfl⟩
      rw [← hp] at c0 c1 c2 hl
      have HP : Aside (p = d[i]!) := hp
      clear hcs hsum hle hok hp
      go_wp2
      go_roundg (d.size - (i + 1))
      case measure => omega
      case rel =>
        have hS : sumTo d (i + 1) = sumTo d i + p.data.size := by rw [HP.out]; exact HS.out
        exact ⟨i + 1, by go_num, by rw [hS]; go_num, by omega, Nat.le_refl _, hb.alloc hb.size _⟩
    · have hltz : ¬ (i : Int) < (d.size : Int) := by omega
      go_wp2
      go_ret
      obtain rfl : i = d.size := by omega
      exact ⟨rfl, hb⟩

def lastTo (d : Array Pc) (i : Nat) : Int := (d.toList.take i).foldl (fun n p => max n p.to_) 0
theorem lastTo_succ (d : Array Pc) {i : Nat} (hi : i < d.size) : lastTo d (i + 1) = max (lastTo d i) d[i]!.to_ := by
  unfold lastTo; rw [take_snoc_d d hi]; simp
theorem lastTo_bd (d : Array Pc) (ok : ∀ i, i < d.size → d[i]!.Ok) : ∀ i, i ≤ d.size → 0 ≤ lastTo d i ∧ lastTo d i ≤ 65535
  | 0, _ => ⟨Int.le_refl _, by show (0 : Int) ≤ 65535; omega⟩
  | i + 1, hi => by
    rw [lastTo_succ d hi]
    have := lastTo_bd d ok i (by omega)
    have h := ok i (by omega)
    have := h.len; have := h.lo
    unfold Pc.to_
    omega
theorem lastTo_le (d : Array Pc) : ∀ i, i ≤ d.size → ∀ j, j < i → d[j]!.to_ ≤ lastTo d i
  | 0, _, j, hj => absurd hj (Nat.not_lt_zero _)
  | i + 1, hi, j, hj => by
    rw [lastTo_succ d hi]
    by_cases h : j < i
    · have := lastTo_le d i (by omega) j h; omega
    · obtain rfl : j = i := by omega
      omega

set_option maxHeartbeats 800000 in
theorem last_any {B b : Nat} {v : Value} {d : Array Pc} {e : Int} (w : World) (h : BodyAt B w b v d e) :
    Calls Try.prog 118 #[.pointer (some ⟨b, 0, none⟩)] w fun r w' => r = .returned (.int .i64 (lastTo d d.size)) ∧ Below w.heap.size w w' := by
  obtain ⟨A, cap, rfl, hA, hf⟩ := row_cells h.row
  have hfew := h.few
  have hc0 : w.cell? ⟨b, 0, none⟩ = some (.slice A d.size cap) := (blk_cell h.blk 0).trans rfl
  have OK := Lib.hid h.ok
  have HA := Lib.hid hA
  have HF := Lib.hid hf
  clear h hA hf
  go_enter Try.func118, Try.ntmps118
  go_wp2
  go_loopg [3, 11] d.size (fun kx s3 s11 wr => ∃ (i : Nat), s11 = .int .i64 i ∧ s3 = .int .i64 (lastTo d i) ∧ i ≤ d.size ∧ d.size - i ≤ kx ∧ Below w.heap.size w wr)
  case atStart => exact ⟨0, rfl, rfl, Nat.zero_le _, Nat.le_refl _, Below.refl _ _⟩
  case round =>
    obtain ⟨i, rfl, rfl, hi, hkx, hb⟩ := hrel
    by_cases hlt : i < d.size
    · have hltz : (i : Int) < (d.size : Int) := by omega
      obtain ⟨g, rfl⟩ := HA.out.resolve_left (by omega)
      obtain ⟨_, hg, _, hcs⟩ := HF.out g rfl
      obtain ⟨c0, c1, c2⟩ := hcs i hlt _ hb
      have HS : Aside (lastTo d (i + 1) = max (lastTo d i) d[i]!.to_) := lastTo_succ d hlt
      have hle := lastTo_bd d OK.out i (by omega)
      have hok := OK.out i hlt
      have hl0 : 0 ≤ d[i]!.frm := hok.lo
      have hl : d[i]!.frm + (d[i]!.data.size : Int) ≤ 65535 := hok.len
      obtain ⟨hle1, hle2⟩ := hle
      obtain ⟨p, hp⟩ : ∃ p, p = d[i]! := ⟨_, rfl⟩
      rw [← hp] at c0 c1 c2 hl hl0 HS
      clear hcs hok hp
      obtain ⟨L, hL⟩ : ∃ L, L = lastTo d i := ⟨_, rfl⟩
      rw [← hL] at HS hle1 hle2 ⊢
      clear hL
      have hT := to_any p (wr.alloc (.cells #[.int .i64 p.frm, .string p.data, .bool p.more] 150)) hl0 hl
      have hT0 : 0 ≤ p.to_ := by unfold Pc.to_; omega
      have hT1 : p.to_ ≤ 65535 := by unfold Pc.to_; omega
      have hs1 : Aside (w.heap.size ≤ wr.heap.size) := hb.size
      go_wp2_with (go_at_call 79; refine hT.mono ?_; rintro e w1 ⟨rfl, rfl⟩)
      all_goals
        go_roundg (d.size - (i + 1))
        case measure => omega
        case rel => exact ⟨i + 1, by go_num, by rw [HS.out], by omega, Nat.le_refl _, (hb.alloc hb.size _).alloc (by simp; have := hb.size; omega) _⟩
    · have hltz : ¬ (i : Int) < (d.size : Int) := by omega
      go_wp2
      go_ret
      obtain rfl : i = d.size := by omega
      exact ⟨rfl, hb⟩

end Go.Proofs.Ytcmgfmpmapnckaa
