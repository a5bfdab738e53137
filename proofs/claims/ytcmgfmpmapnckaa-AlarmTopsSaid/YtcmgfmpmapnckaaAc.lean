/- Walks of package alarm: Histogram. -/
import Derived.Test.YtcmgfmpmapnckaaAb
namespace Go.Proofs.Ytcmgfmpmapnckaa
open Go.Shelf Go.RowKit Go.Lib Go.Sort
set_option linter.unusedVariables false
set_option linter.unusedSimpArgs false

/-- Lines that came in. -/
def LineAt (w : World) (a : Addr) (x : Ln) : Prop := w.cell? a = some (.int .i64 x.time) ∧ w.cell? ⟨a.block, a.off + 1, none⟩ = some (.int .i64 x.reason) ∧ w.cell? ⟨a.block, a.off + 2, none⟩ = some (.int .u32 x.key.src) ∧
  w.cell? ⟨a.block, a.off + 3, none⟩ = some (.int .u32 x.key.dst) ∧ w.cell? ⟨a.block, a.off + 4, none⟩ = some (.int .i64 x.key.proto) ∧ w.cell? ⟨a.block, a.off + 5, none⟩ = some (.int .i64 x.key.sport) ∧ w.cell? ⟨a.block, a.off + 6, none⟩ = some (.int .i64 x.key.dport)
theorem LineAt.keep {w w' : World} {a : Addr} {x : Ln} {n : Nat} (h : LineAt w a x) (ha : a.block < n) (hb : Below n w w') : LineAt w' a x := by
  obtain ⟨h0, h1, h2, h3, h4, h5, h6⟩ := h
  exact ⟨(hb.cell ha).trans h0, (hb.cell (p := ⟨a.block, a.off + 1, none⟩) ha).trans h1, (hb.cell (p := ⟨a.block, a.off + 2, none⟩) ha).trans h2, (hb.cell (p := ⟨a.block, a.off + 3, none⟩) ha).trans h3,
    (hb.cell (p := ⟨a.block, a.off + 4, none⟩) ha).trans h4, (hb.cell (p := ⟨a.block, a.off + 5, none⟩) ha).trans h5, (hb.cell (p := ⟨a.block, a.off + 6, none⟩) ha).trans h6⟩
def ArgL (w : World) (A : Option Addr) (n : Nat) (D : Nat → Ln) : Prop := ∀ i, i < n → ∃ a, A = some a ∧ (a.add (i * 7)).block < w.heap.size ∧ LineAt w (a.add (i * 7)) (D i) ∧ (D i).key.Ok

def cntTo (D : Nat → Ln) : Nat → Int → Nat
  | 0, _ => 0
  | i + 1, r => cntTo D i r + if (D i).reason = r then 1 else 0
theorem cntTo_le (D : Nat → Ln) (r : Int) : ∀ i, cntTo D i r ≤ i
  | 0 => Nat.le_refl _
  | i + 1 => by have := cntTo_le D r i; unfold cntTo; split <;> omega
def histL (D : Nat → Ln) (i : Nat) : List Value := (List.range 16).map fun (r : Nat) => Value.int .i64 ((cntTo D i (r : Int) : Nat) : Int)
theorem histL_in (D : Nat → Ln) (i : Nat) {r : Nat} (hr : (D i).reason = (r : Int)) (h16 : r < 16) : (histL D i).set r (.int .i64 ((cntTo D i (r : Int) : Int) + 1)) = histL D (i + 1) := by
  refine List.ext_getElem? fun j => ?_
  unfold histL
  rw [List.getElem?_set]
  by_cases hj : r = j
  · subst hj
    rw [if_pos rfl]
    simp [h16, cntTo, hr]
  · rw [if_neg hj]
    simp only [List.getElem?_map, cntTo]
    by_cases h : j < 16
    · rw [List.getElem?_range h]
      simp only [Option.map_some, hr]
      rw [if_neg (by omega)]; rfl
    · rw [List.getElem?_eq_none (by simp; omega)]; rfl
theorem histL_out (D : Nat → Ln) (i : Nat) (hr : (D i).reason < 0 ∨ 15 < (D i).reason) : histL D (i + 1) = histL D i := by
  refine List.ext_getElem? fun j => ?_
  unfold histL
  simp only [List.getElem?_map, cntTo]
  by_cases h : j < 16
  · rw [List.getElem?_range h]
    simp only [Option.map_some]
    rw [if_neg (by omega)]; rfl
  · rw [List.getElem?_eq_none (by simp; omega)]; rfl
theorem histL_get (D : Nat → Ln) (i : Nat) {r : Nat} (h16 : r < 16) : (histL D i)[r]? = some (.int .i64 (cntTo D i (r : Int))) := by
  unfold histL; simp [h16]

set_option maxHeartbeats 4000000 in
set_option maxRecDepth 100000 in
theorem histogram_any {A : Option Addr} {n cap : Nat} {D : Nat → Ln} (w : World) (h : ArgL w A n D) (hn : n ≤ 1000) :
    Calls Try.prog 21 #[.slice A n cap] w fun e w' => e = .returned (.agg (histL D n).toArray) ∧ Below w.heap.size w w' := by
  have H := Lib.hid h
  have hin := fun x W => in_any x 0 15 W
  clear h
  go_enter Try.func21, Try.ntmps21
  go_wp2_with fail
  have hz : (#[.int .i64 0, .int .i64 0, .int .i64 0, .int .i64 0, .int .i64 0, .int .i64 0, .int .i64 0, .int .i64 0, .int .i64 0, .int .i64 0, .int .i64 0, .int .i64 0, .int .i64 0, .int .i64 0, .int .i64 0, .int .i64 0] : Array Value) = (histL D 0).toArray := rfl
  rw [hz]
  clear hz
  have hb0 : ((w.alloc (.cells (histL D 0).toArray 45)).alloc (.cells (histL D 0).toArray 45)).heap[w.heap.size]? = some (.cells (histL D 0).toArray 45 (0, 0)) := blk_alloc (blk_new _ _) _
  have hb1 : ((w.alloc (.cells (histL D 0).toArray 45)).alloc (.cells (histL D 0).toArray 45)).heap[w.heap.size + 1]? = some (.cells (histL D 0).toArray 45 (0, 0)) := by
    have := blk_new (w.alloc (.cells (histL D 0).toArray 45)) (.cells (histL D 0).toArray 45)
    simpa using this
  have hF : Below w.heap.size w ((w.alloc (.cells (histL D 0).toArray 45)).alloc (.cells (histL D 0).toArray 45)) := ((Below.refl _ _).alloc (Nat.le_refl _) _).alloc (by simp) _
  have HB0 := Lib.hid hb0
  have HB1 := Lib.hid hb1
  have HF := Lib.hid hF
  clear hb0 hb1 hF
  generalize (w.alloc (.cells (histL D 0).toArray 45)).alloc (.cells (histL D 0).toArray 45) = w2 at HB0 HB1 HF ⊢
  go_loopg [8] n (fun kx s8 wr => ∃ i : Nat, s8 = .int .i64 i ∧ i ≤ n ∧ n - i ≤ kx ∧ Aside (wr.heap[w.heap.size]? = some (.cells (histL D 0).toArray 45 (0, 0))) ∧ Aside (wr.heap[w.heap.size + 1]? = some (.cells (histL D i).toArray 45 (0, 0))) ∧ Aside (Below w.heap.size w wr))
  case atStart => exact ⟨0, rfl, Nat.zero_le _, Nat.le_refl _, HB0.out, HB1.out, HF.out⟩
  case round =>
    clear HB0 HB1 HF
    obtain ⟨i, rfl, hi, hkx, HB0, HB1, HF⟩ := hrel
    by_cases hlt : i < n
    · have hltz : (i : Int) < (n : Int) := by omega
      obtain ⟨a, rfl, hab, hLA, hok⟩ := H.out i hlt
      obtain ⟨c0, c1, c2, c3, c4, c5, c6⟩ := hLA.keep hab HF.out
      have HRe : Aside (∀ r : Nat, (D i).reason = (r : Int) → r < 16 → (histL D i).set r (.int .i64 ((cntTo D i (r : Int) : Int) + 1)) = histL D (i + 1)) := fun r h1 h2 => histL_in D i h1 h2
      have HRo : Aside ((D i).reason < 0 ∨ 15 < (D i).reason → histL D (i + 1) = histL D i) := histL_out D i
      generalize D i = x at c0 c1 c2 c3 c4 c5 c6 HRe HRo
      have hs1 := HF.out.size
      have hi15 := hin x.reason
      clear hLA hok
      by_cases hr : 0 ≤ x.reason ∧ x.reason ≤ 15
      · have hd : (decide (0 ≤ x.reason) && decide (x.reason ≤ 15)) = true := by rw [decide_eq_true hr.1, decide_eq_true hr.2]; rfl
        rw [hd] at hi15
        clear hd
        obtain ⟨hr0, hr1⟩ := hr
        obtain ⟨r, hr⟩ := Int.eq_ofNat_of_zero_le hr0
        have HRR := Lib.hid hr
        have hr16 : r < 16 := by omega
        have hcnt : cntTo D i (r : Int) ≤ 1000 := by have := cntTo_le D (r : Int) i; omega
        have hcell : (wr.alloc (.cells #[.int .i64 x.time, .int .i64 x.reason, .int .u32 x.key.src, .int .u32 x.key.dst, .int .i64 x.key.proto, .int .i64 x.key.sport, .int .i64 x.key.dport] 50)).cell? ⟨w.heap.size + 1, r, none⟩ = some (.int .i64 (cntTo D i (r : Int))) := by
          rw [blk_cell (blk_alloc HB1.out _) r, List.getElem?_toArray, histL_get D i hr16]
        have hfrz : (wr.alloc (.cells #[.int .i64 x.time, .int .i64 x.reason, .int .u32 x.key.src, .int .u32 x.key.dst, .int .i64 x.key.proto, .int .i64 x.key.sport, .int .i64 x.key.dport] 50)).frozen? ⟨w.heap.size + 1, r, none⟩ = false := blk_free (blk_alloc HB1.out _) r
        have er : x.reason.toNat = r := by omega
        have HS2 : Aside (((wr.alloc (.cells #[.int .i64 x.time, .int .i64 x.reason, .int .u32 x.key.src, .int .u32 x.key.dst, .int .i64 x.key.proto, .int .i64 x.key.sport, .int .i64 x.key.dport] 50)).setCell ⟨w.heap.size + 1, r, none⟩ (.int .i64 ((cntTo D i (r : Int) : Int) + 1))).heap[w.heap.size + 1]? = some (.cells (histL D (i + 1)).toArray 45 (0, 0))) := by
          show ((wr.alloc (.cells #[.int .i64 x.time, .int .i64 x.reason, .int .u32 x.key.src, .int .u32 x.key.dst, .int .i64 x.key.proto, .int .i64 x.key.sport, .int .i64 x.key.dport] 50)).setCell ⟨w.heap.size + 1, r, none⟩ (.int .i64 ((cntTo D i (r : Int) : Int) + 1))).heap[w.heap.size + 1]? = _
          rw [blk_set (blk_alloc HB1.out _) r, List.setIfInBounds_toArray, HRe.out r hr hr16]
        have HS1 : Aside (((wr.alloc (.cells #[.int .i64 x.time, .int .i64 x.reason, .int .u32 x.key.src, .int .u32 x.key.dst, .int .i64 x.key.proto, .int .i64 x.key.sport, .int .i64 x.key.dport] 50)).setCell ⟨w.heap.size + 1, r, none⟩ (.int .i64 ((cntTo D i (r : Int) : Int) + 1))).heap[w.heap.size]? = some (.cells (histL D 0).toArray 45 (0, 0))) := blk_set_ne (blk_alloc HB0.out _) _ (by show w.heap.size ≠ w.heap.size + 1; omega)
        have HF2 : Aside (Below w.heap.size w ((wr.alloc (.cells #[.int .i64 x.time, .int .i64 x.reason, .int .u32 x.key.src, .int .u32 x.key.dst, .int .i64 x.key.proto, .int .i64 x.key.sport, .int .i64 x.key.dport] 50)).setCell ⟨w.heap.size + 1, r, none⟩ (.int .i64 ((cntTo D i (r : Int) : Int) + 1)))) := (HF.out.alloc hs1 _).setCell (p := ⟨w.heap.size + 1, r, none⟩) (Nat.le_succ _) _
        clear HB0 HB1 HF HRe HRo
        generalize x.reason = y at *
        subst hr
        have HRR2 := HRR
        go_wp2_with (go_at_call 59; refine (hi15 _).mono ?_; rintro e w1 ⟨rfl, rfl⟩)
        go_roundg (n - (i + 1))
        case measure => omega
        case rel => exact ⟨i + 1, by go_num, by omega, Nat.le_refl _, HS1, HS2, HF2⟩
      · have hd : (decide (0 ≤ x.reason) && decide (x.reason ≤ 15)) = false := by
          rw [Bool.eq_false_iff]; intro hh; rw [Bool.and_eq_true, decide_eq_true_eq, decide_eq_true_eq] at hh; exact hr hh
        rw [hd] at hi15
        clear hd
        go_wp2_with (go_at_call 59; refine (hi15 _).mono ?_; rintro e w1 ⟨rfl, rfl⟩)
        go_roundg (n - (i + 1))
        case measure => omega
        case rel => exact ⟨i + 1, by go_num, by omega, Nat.le_refl _, blk_alloc HB0.out _, by rw [HRo.out (by omega)]; exact blk_alloc HB1.out _, HF.out.alloc hs1 _⟩
    · have hltz : ¬ (i : Int) < (n : Int) := by omega
      obtain rfl : i = n := by omega
      have hcA : ∀ j : Nat, j < 16 → wr.cell? ⟨w.heap.size + 1, j, none⟩ = some (.int .i64 (cntTo D i (j : Int))) := fun j hj => by
        rw [blk_cell HB1.out j, List.getElem?_toArray, histL_get D i hj]
      have hcB : ∀ j : Nat, j < 16 → wr.cell? ⟨w.heap.size, j, none⟩ = some (.int .i64 0) := fun j hj => by
        rw [blk_cell HB0.out j, List.getElem?_toArray, histL_get D 0 hj]; rfl
      have hfB : ∀ j : Nat, wr.frozen? ⟨w.heap.size, j, none⟩ = false := fun j => blk_free HB0.out j
      have a0 : wr.cell? ⟨w.heap.size + 1, 0, none⟩ = some (.int .i64 (cntTo D i 0)) := hcA 0 (by omega)
      have b0 : wr.cell? ⟨w.heap.size, 0, none⟩ = some (.int .i64 0) := hcB 0 (by omega)
      have a1 : wr.cell? ⟨w.heap.size + 1, 1, none⟩ = some (.int .i64 (cntTo D i 1)) := hcA 1 (by omega)
      have b1 : wr.cell? ⟨w.heap.size, 1, none⟩ = some (.int .i64 0) := hcB 1 (by omega)
      have a2 : wr.cell? ⟨w.heap.size + 1, 2, none⟩ = some (.int .i64 (cntTo D i 2)) := hcA 2 (by omega)
      have b2 : wr.cell? ⟨w.heap.size, 2, none⟩ = some (.int .i64 0) := hcB 2 (by omega)
      have a3 : wr.cell? ⟨w.heap.size + 1, 3, none⟩ = some (.int .i64 (cntTo D i 3)) := hcA 3 (by omega)
      have b3 : wr.cell? ⟨w.heap.size, 3, none⟩ = some (.int .i64 0) := hcB 3 (by omega)
      have a4 : wr.cell? ⟨w.heap.size + 1, 4, none⟩ = some (.int .i64 (cntTo D i 4)) := hcA 4 (by omega)
      have b4 : wr.cell? ⟨w.heap.size, 4, none⟩ = some (.int .i64 0) := hcB 4 (by omega)
      have a5 : wr.cell? ⟨w.heap.size + 1, 5, none⟩ = some (.int .i64 (cntTo D i 5)) := hcA 5 (by omega)
      have b5 : wr.cell? ⟨w.heap.size, 5, none⟩ = some (.int .i64 0) := hcB 5 (by omega)
      have a6 : wr.cell? ⟨w.heap.size + 1, 6, none⟩ = some (.int .i64 (cntTo D i 6)) := hcA 6 (by omega)
      have b6 : wr.cell? ⟨w.heap.size, 6, none⟩ = some (.int .i64 0) := hcB 6 (by omega)
      have a7 : wr.cell? ⟨w.heap.size + 1, 7, none⟩ = some (.int .i64 (cntTo D i 7)) := hcA 7 (by omega)
      have b7 : wr.cell? ⟨w.heap.size, 7, none⟩ = some (.int .i64 0) := hcB 7 (by omega)
      have a8 : wr.cell? ⟨w.heap.size + 1, 8, none⟩ = some (.int .i64 (cntTo D i 8)) := hcA 8 (by omega)
      have b8 : wr.cell? ⟨w.heap.size, 8, none⟩ = some (.int .i64 0) := hcB 8 (by omega)
      have a9 : wr.cell? ⟨w.heap.size + 1, 9, none⟩ = some (.int .i64 (cntTo D i 9)) := hcA 9 (by omega)
      have b9 : wr.cell? ⟨w.heap.size, 9, none⟩ = some (.int .i64 0) := hcB 9 (by omega)
      have a10 : wr.cell? ⟨w.heap.size + 1, 10, none⟩ = some (.int .i64 (cntTo D i 10)) := hcA 10 (by omega)
      have b10 : wr.cell? ⟨w.heap.size, 10, none⟩ = some (.int .i64 0) := hcB 10 (by omega)
      have a11 : wr.cell? ⟨w.heap.size + 1, 11, none⟩ = some (.int .i64 (cntTo D i 11)) := hcA 11 (by omega)
      have b11 : wr.cell? ⟨w.heap.size, 11, none⟩ = some (.int .i64 0) := hcB 11 (by omega)
      have a12 : wr.cell? ⟨w.heap.size + 1, 12, none⟩ = some (.int .i64 (cntTo D i 12)) := hcA 12 (by omega)
      have b12 : wr.cell? ⟨w.heap.size, 12, none⟩ = some (.int .i64 0) := hcB 12 (by omega)
      have a13 : wr.cell? ⟨w.heap.size + 1, 13, none⟩ = some (.int .i64 (cntTo D i 13)) := hcA 13 (by omega)
      have b13 : wr.cell? ⟨w.heap.size, 13, none⟩ = some (.int .i64 0) := hcB 13 (by omega)
      have a14 : wr.cell? ⟨w.heap.size + 1, 14, none⟩ = some (.int .i64 (cntTo D i 14)) := hcA 14 (by omega)
      have b14 : wr.cell? ⟨w.heap.size, 14, none⟩ = some (.int .i64 0) := hcB 14 (by omega)
      have a15 : wr.cell? ⟨w.heap.size + 1, 15, none⟩ = some (.int .i64 (cntTo D i 15)) := hcA 15 (by omega)
      have b15 : wr.cell? ⟨w.heap.size, 15, none⟩ = some (.int .i64 0) := hcB 15 (by omega)
      clear hcA hcB
      have HF2 := Lib.hid HF.out
      clear HB0 HB1 HF hin
      go_wp2
      refine bodyPost_ret (v := .agg #[.int .i64 (cntTo D i 0), .int .i64 (cntTo D i 1), .int .i64 (cntTo D i 2), .int .i64 (cntTo D i 3), .int .i64 (cntTo D i 4), .int .i64 (cntTo D i 5), .int .i64 (cntTo D i 6), .int .i64 (cntTo D i 7), .int .i64 (cntTo D i 8), .int .i64 (cntTo D i 9), .int .i64 (cntTo D i 10), .int .i64 (cntTo D i 11), .int .i64 (cntTo D i 12), .int .i64 (cntTo D i 13), .int .i64 (cntTo D i 14), .int .i64 (cntTo D i 15)]) ?_ rfl ⟨rfl, ?_⟩
      · simp [results, Try.results21, go_sem, hfB, b0, b1, b2, b3, b4, b5, b6, b7, b8, b9, b10, b11, b12, b13, b14, b15]
      · exact (((((((((((((((HF2.out.setCell (p := ⟨w.heap.size, 0, none⟩) (Nat.le_refl _) _).setCell (p := ⟨w.heap.size, 1, none⟩) (Nat.le_refl _) _).setCell (p := ⟨w.heap.size, 2, none⟩) (Nat.le_refl _) _).setCell (p := ⟨w.heap.size, 3, none⟩) (Nat.le_refl _) _).setCell (p := ⟨w.heap.size, 4, none⟩) (Nat.le_refl _) _).setCell (p := ⟨w.heap.size, 5, none⟩) (Nat.le_refl _) _).setCell (p := ⟨w.heap.size, 6, none⟩) (Nat.le_refl _) _).setCell (p := ⟨w.heap.size, 7, none⟩) (Nat.le_refl _) _).setCell (p := ⟨w.heap.size, 8, none⟩) (Nat.le_refl _) _).setCell (p := ⟨w.heap.size, 9, none⟩) (Nat.le_refl _) _).setCell (p := ⟨w.heap.size, 10, none⟩) (Nat.le_refl _) _).setCell (p := ⟨w.heap.size, 11, none⟩) (Nat.le_refl _) _).setCell (p := ⟨w.heap.size, 12, none⟩) (Nat.le_refl _) _).setCell (p := ⟨w.heap.size, 13, none⟩) (Nat.le_refl _) _).setCell (p := ⟨w.heap.size, 14, none⟩) (Nat.le_refl _) _).setCell (p := ⟨w.heap.size, 15, none⟩) (Nat.le_refl _) _

end Go.Proofs.Ytcmgfmpmapnckaa
