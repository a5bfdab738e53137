/- The document's example of layer 37: Find, awake. -/
import Derived.Test.YtcmgfmpmapnckaaAf
namespace Go.Proofs.Ytcmgfmpmapnckaa
open Go.Shelf Go.RowKit Go.Lib Go.Sort
set_option linter.unusedVariables false
set_option linter.unusedSimpArgs false

theorem ArgL.below {w w' : World} {A : Option Addr} {n : Nat} {D : Nat → Ln} (h : ArgL w A n D) (hb : Below w.heap.size w w') : ArgL w' A n D := fun i hi => by
  obtain ⟨a, hA, hl, hat, hok⟩ := h i hi
  exact ⟨a, hA, Nat.lt_of_lt_of_le hl hb.size, hat.keep hl hb, hok⟩

def PostF (w : World) (e : Ending) (w' : World) : Prop := ∃ g cap, e = .returned (.tuple #[.slice (some ⟨g, 0, none⟩) 1 cap, .int .i64 0]) ∧ w'.ownsRow w.heap.size 126 3 (.slice (some ⟨g, 0, none⟩) 1 cap) 1 [.int .i64 0, .int .i64 2, .int .i64 3] ∧ Below w.heap.size w w'

set_option maxHeartbeats 8000000 in
set_option maxRecDepth 100000 in
theorem find7 {A : Option Addr} {cap : Nat} (x : Nat) (w : World) (hx : w.heap[x]? = some (.cells #[.int .i64 6, .int .i64 1, .int .i64 3, .int .i64 5] 123 (0, 0))) (h : ArgL w A 3 D7) :
    Calls Try.prog 58 #[.slice (some ⟨x, 0, none⟩) 1 1, .slice A 3 cap] w (PostF w) := by
  have hr := rightAll7 x w hx
  have HX := Lib.hid hx
  have H := Lib.hid h
  clear hx h
  go_enter Try.func58, Try.ntmps58
  go_wp2_with (go_at_call 98; refine hr.mono ?_; rintro e w1 ⟨rfl, hf1⟩)
  have hx1 : w1.heap[x]? = some (.cells #[.int .i64 6, .int .i64 1, .int .i64 3, .int .i64 5] 123 (0, 0)) := (hf1.block x (blk_lt HX.out)).trans HX.out
  have h1 : ArgL w1 A 3 D7 := H.out.below hf1
  have HX1 := Lib.hid hx1
  have H1 := Lib.hid h1
  have HF1 := Lib.hid hf1
  clear hr hf1 hx1 h1
  go_loopg [6, 24] 1 (fun kx s6 s24 wr => ∃ (i : Nat), s24 = .int .i64 i ∧ i ≤ 1 ∧ 1 - i ≤ kx ∧ (i = 0 → s6 = .slice none 0 0 ∧ wr = w1) ∧
    Aside (i = 1 → ∃ g cap, s6 = .slice (some ⟨g, 0, none⟩) 1 cap ∧ wr.ownsRow w.heap.size 126 3 (.slice (some ⟨g, 0, none⟩) 1 cap) 1 [.int .i64 0, .int .i64 2, .int .i64 3]) ∧ Aside (Below w.heap.size w wr))
  case atStart => exact ⟨0, rfl, by omega, by omega, fun _ => ⟨rfl, rfl⟩, (fun h => by omega : _ → _), HF1⟩
  case round =>
    obtain ⟨i, rfl, hi, hkx, h0, HE, HF⟩ := hrel
    by_cases hlt : i < 1
    · obtain rfl : i = 0 := by omega
      obtain ⟨rfl, rfl⟩ := h0 rfl
      have c0 : wr.cell? ⟨x, 0, none⟩ = some (.int .i64 6) := (blk_cell HX1.out 0).trans rfl
      have c1 : wr.cell? ⟨x, 1, none⟩ = some (.int .i64 1) := (blk_cell HX1.out 1).trans rfl
      have c2 : wr.cell? ⟨x, 2, none⟩ = some (.int .i64 3) := (blk_cell HX1.out 2).trans rfl
      have c3 : wr.cell? ⟨x, 3, none⟩ = some (.int .i64 5) := (blk_cell HX1.out 3).trans rfl
      have hS := strikes7 (cap := cap) _ (H1.out.below (w' := wr.alloc (.cells #[.int .i64 6, .int .i64 1, .int .i64 3, .int .i64 5] 123)) ((Below.refl _ _).alloc (Nat.le_refl _) _))
      have hs1 := HF.out.size
      obtain ⟨i1, hi0, hz0, hz1, hz2⟩ := info_parts info126
      go_wp2_with (first
        | (go_at_call 99; refine hS.mono ?_; rintro e w3 ⟨g3, cap3, rfl, hown3, hb3⟩; (have hown3' := hown3); (have hs3 := hb3.size); rw [World.size_alloc] at hs3; (have HO3 := Lib.hid hown3); clear hown3 hown3')
        | (at_builtin; refine wpList_append_lies _ rfl (.tmp 29) (.tmp 33) 119 rfl w.heap.size 126 i1 _ 3 24 Try.underlying119 hi0 hz0 hz1 hz2 rfl (by decide) (.slice none 0 0) 0 [] rfl (World.ownsRow_nil _ _ _ _) ⟨g3, 0, none⟩ 1 cap3 [.int .i64 0, .int .i64 2, .int .i64 3] rfl rfl (fun j u hu => by rw [show (⟨g3, 0, none⟩ : Addr).add j = ⟨g3, j, none⟩ by (simp [Addr.add]; try omega)]; exact (World.ownsRow.cellAt (h := HO3.out) j (by have := (List.getElem?_eq_some_iff.1 hu).1; simpa using this)).trans hu) (by simp [Value.oneCell']) (by omega) (by decide) (by decide) (by omega) _ rfl ?_; intro g4 cap4 w4 hown4 hgrow hat hlt4))
      have hb4 : Below w.heap.size w w4 := ((HF.out.alloc hs1 _).trans ⟨hb3.os, hb3.tape, hb3.output, hb3.size, fun q hq => hb3.block q (by simp; omega)⟩).trans ⟨hgrow.os, hgrow.tape, hgrow.output, hgrow.size, fun q hq => hgrow.block q (by omega) (fun e => by simp [Value.ownBlock] at e)⟩
      go_roundg 0
      case measure => omega
      case rel => exact ⟨1, by go_num, by omega, by omega, fun h => absurd h (by omega), (fun _ => ⟨g4, cap4, rfl, hown4⟩ : _ → _), hb4⟩
    · obtain rfl : i = 1 := by omega
      obtain ⟨g, cp, rfl, hown⟩ := HE.out rfl
      have HO := Lib.hid hown
      have HF2 := Lib.hid HF.out
      clear hown HF HE h0
      go_wp2
      go_ret2
      exact ⟨g, cp, rfl, HO.out, HF2.out⟩

theorem argL7 {W : World} {b : Nat} (h : W.heap[b]? = some (.cells #[.int .i64 1, .int .i64 6, .int .u32 7, .int .u32 0, .int .i64 0, .int .i64 0, .int .i64 0, .int .i64 3, .int .i64 6, .int .u32 7, .int .u32 0, .int .i64 0, .int .i64 0, .int .i64 0, .int .i64 5, .int .i64 6, .int .u32 7, .int .u32 0, .int .i64 0, .int .i64 0, .int .i64 0] 50 (0, 0))) : ArgL W (some ⟨b, 0, none⟩) 3 D7 := by
  intro i hi
  have hl := blk_lt h
  have hc := fun o => blk_cell h o
  refine ⟨_, rfl, by (simp only [Addr.add]; split <;> exact hl), ?_, kx7_ok⟩
  match i, hi with
  | 0, _ => exact ⟨(hc 0).trans rfl, (hc 1).trans rfl, (hc 2).trans rfl, (hc 3).trans rfl, (hc 4).trans rfl, (hc 5).trans rfl, (hc 6).trans rfl⟩
  | 1, _ => exact ⟨(hc 7).trans rfl, (hc 8).trans rfl, (hc 9).trans rfl, (hc 10).trans rfl, (hc 11).trans rfl, (hc 12).trans rfl, (hc 13).trans rfl⟩
  | 2, _ => exact ⟨(hc 14).trans rfl, (hc 15).trans rfl, (hc 16).trans rfl, (hc 17).trans rfl, (hc 18).trans rfl, (hc 19).trans rfl, (hc 20).trans rfl⟩
  | i + 3, h => exact absurd h (by omega)

set_option maxHeartbeats 8000000 in
set_option maxRecDepth 100000 in
theorem awake37 (w : World) : Calls Try.prog 19 #[] w fun e w' => e = .returned (.bool true) ∧ Below w.heap.size w w' := by
  go_enter Try.func19, Try.ntmps19
  go_wp2_with fail
  have hL : ∀ o, (((w.alloc (.cells #[.int .u32 7, .int .u32 0, .int .i64 0, .int .i64 0, .int .i64 0] 48)).alloc (.cells #[.int .i64 1, .int .i64 6, .int .u32 7, .int .u32 0, .int .i64 0, .int .i64 0, .int .i64 0, .int .i64 3, .int .i64 6, .int .u32 7, .int .u32 0, .int .i64 0, .int .i64 0, .int .i64 0, .int .i64 5, .int .i64 6, .int .u32 7, .int .u32 0, .int .i64 0, .int .i64 0, .int .i64 0] 50)).alloc o).heap[w.heap.size + 1]? = some (.cells #[.int .i64 1, .int .i64 6, .int .u32 7, .int .u32 0, .int .i64 0, .int .i64 0, .int .i64 0, .int .i64 3, .int .i64 6, .int .u32 7, .int .u32 0, .int .i64 0, .int .i64 0, .int .i64 0, .int .i64 5, .int .i64 6, .int .u32 7, .int .u32 0, .int .i64 0, .int .i64 0, .int .i64 0] 50 (0, 0)) := fun o => blk_alloc (blk_new' _ _ _ (by simp)) _
  have hX : (((w.alloc (.cells #[.int .u32 7, .int .u32 0, .int .i64 0, .int .i64 0, .int .i64 0] 48)).alloc (.cells #[.int .i64 1, .int .i64 6, .int .u32 7, .int .u32 0, .int .i64 0, .int .i64 0, .int .i64 0, .int .i64 3, .int .i64 6, .int .u32 7, .int .u32 0, .int .i64 0, .int .i64 0, .int .i64 0, .int .i64 5, .int .i64 6, .int .u32 7, .int .u32 0, .int .i64 0, .int .i64 0, .int .i64 0] 50)).alloc (.cells #[.int .i64 6, .int .i64 1, .int .i64 3, .int .i64 5] 123)).heap[w.heap.size + 1 + 1]? = some (.cells #[.int .i64 6, .int .i64 1, .int .i64 3, .int .i64 5] 123 (0, 0)) := blk_new' _ _ _ (by simp)
  have hF : Below w.heap.size w (((w.alloc (.cells #[.int .u32 7, .int .u32 0, .int .i64 0, .int .i64 0, .int .i64 0] 48)).alloc (.cells #[.int .i64 1, .int .i64 6, .int .u32 7, .int .u32 0, .int .i64 0, .int .i64 0, .int .i64 0, .int .i64 3, .int .i64 6, .int .u32 7, .int .u32 0, .int .i64 0, .int .i64 0, .int .i64 0, .int .i64 5, .int .i64 6, .int .u32 7, .int .u32 0, .int .i64 0, .int .i64 0, .int .i64 0] 50)).alloc (.cells #[.int .i64 6, .int .i64 1, .int .i64 3, .int .i64 5] 123)) := (((Below.refl _ _).alloc (Nat.le_refl _) _).alloc (by simp) _).alloc (by simp; omega) _
  have hS := find7 (cap := 3) (w.heap.size + 1 + 1) _ hX (argL7 (hL _))
  have HF := Lib.hid hF
  clear hL hX hF
  generalize ((w.alloc (.cells #[.int .u32 7, .int .u32 0, .int .i64 0, .int .i64 0, .int .i64 0] 48)).alloc (.cells #[.int .i64 1, .int .i64 6, .int .u32 7, .int .u32 0, .int .i64 0, .int .i64 0, .int .i64 0, .int .i64 3, .int .i64 6, .int .u32 7, .int .u32 0, .int .i64 0, .int .i64 0, .int .i64 0, .int .i64 5, .int .i64 6, .int .u32 7, .int .u32 0, .int .i64 0, .int .i64 0, .int .i64 0] 50)).alloc (.cells #[.int .i64 6, .int .i64 1, .int .i64 3, .int .i64 5] 123) = w3 at HF hS ⊢
  refine hS.mono ?_
  rintro e w4 ⟨g, cp, rfl, hown, hb⟩
  have c0 : w4.cell? ⟨g, 0, none⟩ = some (.int .i64 0) := World.ownsRow.cellAt (h := hown) 0 (by omega)
  have c1 : w4.cell? ⟨g, 1, none⟩ = some (.int .i64 2) := World.ownsRow.cellAt (h := hown) 1 (by omega)
  have c2 : w4.cell? ⟨g, 2, none⟩ = some (.int .i64 3) := World.ownsRow.cellAt (h := hown) 2 (by omega)
  have hgl := (hown.lt g rfl).2
  have HF4 := Lib.hid (HF.out.trans (hb.mono HF.out.size))
  clear hS hown hb
  go_wp2
  go_ret
  exact ⟨rfl, HF4.out⟩

end Go.Proofs.Ytcmgfmpmapnckaa
