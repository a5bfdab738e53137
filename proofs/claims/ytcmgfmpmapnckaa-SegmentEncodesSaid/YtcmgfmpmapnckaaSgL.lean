/- The walk of the law SegmentEncodes. -/
import Derived.Test.YtcmgfmpmapnckaaPm
namespace Go.Proofs.Ytcmgfmpmapnckaa
open Go.RowKit
set_option linter.unusedVariables false
set_option linter.unusedSimpArgs false

theorem refRight_yes (proto : Int) (s : Seg) (w : World) (h : segRight proto s) :
    Calls Try.prog 12 #[.int .i64 proto, .agg s.cells] w fun e w' => e = .returned (.bool true) ∧ Foot (fun _ => False) w w' := by
  refine (refRight_any proto s w).mono ?_
  rintro e w' ⟨⟨r, rfl, hr⟩, hf⟩
  exact ⟨by rw [hr.2 h], hf⟩
theorem refRight_no (proto : Int) (s : Seg) (w : World) (h : ¬ segRight proto s) :
    Calls Try.prog 12 #[.int .i64 proto, .agg s.cells] w fun e w' => e = .returned (.bool false) ∧ Foot (fun _ => False) w w' := by
  refine (refRight_any proto s w).mono ?_
  rintro e w' ⟨⟨r, rfl, hr⟩, hf⟩
  cases r
  · exact ⟨rfl, hf⟩
  · exact absurd (hr.1 rfl) h

set_option maxHeartbeats 2000000 in
set_option maxRecDepth 100000 in
theorem sencodes_skip (proto src dst : Int) (s : Seg) (w : World) (h : 2000 < s.data.size ∧ s.data.size < 65000 ∨ 66000 < s.data.size) :
    Calls Try.prog 3 #[.int .i64 proto, .int .u32 src, .int .u32 dst, .agg s.cells] w (TruePost w) := by
  obtain ⟨sport, dport, seq, ack, flags, window, data⟩ := s
  unfold Seg.cells
  simp only at h
  have hF : ∀ o w', Below (w.alloc o).heap.size (w.alloc o) w' → Below w.heap.size w w' := fun o w' h => ((Below.refl _ _).alloc (Nat.le_refl _) o).trans (h.mono (by simp))
  have HF := Lib.hid hF; clear hF
  rcases h with h | h
  · have h1 : (2000 : Int) < data.size := by omega
    have h2 : (data.size : Int) < 65000 := by omega
    have H := Lib.hid h; clear h
    simp only
    go_enter Try.func3, Try.ntmps3
    go_wp2_with (go_at_call 10; (with_reducible refine (awake6 _).mono ?_); rintro e w1 ⟨rfl, hf⟩)
    go_ret
    exact ⟨rfl, HF.out _ _ hf⟩
  · have h1 : (2000 : Int) < data.size := by omega
    have h2 : ¬ (data.size : Int) < 65000 := by omega
    have h4 : (65000 : Int) ≤ data.size := by omega
    have h3 : (66000 : Int) < data.size := by omega
    have H := Lib.hid h; clear h
    simp only
    go_enter Try.func3, Try.ntmps3
    go_wp2_with (go_at_call 10; (with_reducible refine (awake6 _).mono ?_); rintro e w1 ⟨rfl, hf⟩)
    go_ret
    exact ⟨rfl, HF.out _ _ hf⟩

set_option maxHeartbeats 2000000 in
set_option maxRecDepth 100000 in
theorem sencodes_no (proto : Int) (src dst : Int) (s : Seg) (w : World) (h : ¬ (2000 < s.data.size ∧ s.data.size < 65000 ∨ 66000 < s.data.size)) (hr : ¬ segRight proto s) :
    Calls Try.prog 3 #[.int .i64 proto, .int .u32 src, .int .u32 dst, .agg s.cells] w (TruePost w) := by
  have e1 := fun w => encode_no proto src dst s w hr
  have e2 := fun w => refRight_no proto s w hr
  have e3 := fun w => right_no proto s w hr
  have hb0 := blk_new w (.cells s.cells 24)
  have E1 := Lib.hid e1; clear e1
  have E2 := Lib.hid e2; clear e2
  have E3 := Lib.hid e3; clear e3 hr
  obtain ⟨sport, dport, seq, ack, flags, window, data⟩ := s
  unfold Seg.cells at *
  have hF : ∀ o w', Below (w.alloc o).heap.size (w.alloc o) w' → Below w.heap.size w w' := fun o w' h => ((Below.refl _ _).alloc (Nat.le_refl _) o).trans (h.mono (by simp))
  have HF := Lib.hid hF; clear hF
  simp only at h hb0 E1 E2 E3 ⊢
  have HB0 := Lib.hid hb0; clear hb0
  have hl0 : Below w.heap.size w (w.alloc (.cells #[.int .i64 sport, .int .i64 dport, .int .u32 seq, .int .u32 ack, .int .i64 flags, .int .i64 window, .string data] 24)) := (Below.refl _ _).alloc (Nat.le_refl _) _
  have HL0 := Lib.hid hl0; clear hl0 HF
  by_cases h1 : (2000 : Int) < data.size
  · have h4 : (65000 : Int) ≤ data.size := by omega
    have h3 : (data.size : Int) ≤ 66000 := by omega
    have H := Lib.hid h; clear h
    go_enter Try.func3, Try.ntmps3
    go_wp2_with (fail)
    refine (E1.out _).mono ?_
    rintro e w1 ⟨rfl, hf1⟩
    have hb1 := (hf1.block _ (blk_lt HB0.out)).trans HB0.out
    have hl1 := Lib.hid (HL0.out.trans (hf1.mono HL0.out.size))
    obtain ⟨d0, d1, d2, d3, d4, d5, d6⟩ := cells7 hb1
    have HB1 := Lib.hid hb1; clear hb1
    have HL1 := hl1; clear hl1 hf1
    clear HB0 HL0
    go_wp2_with (fail)
    clear d0 d1 d2 d3 d4 d5 d6
    refine (E2.out _).mono ?_
    rintro e w2 ⟨rfl, hf2⟩
    have hb2 := hf2.keep HB1.out id
    have hl2 := Lib.hid (HL1.out.trans ((Foot.below hf2).mono HL1.out.size))
    obtain ⟨d0, d1, d2, d3, d4, d5, d6⟩ := cells7 hb2
    have HB2 := Lib.hid hb2; clear hb2
    have HL2 := hl2; clear hl2 hf2
    clear HB1 HL1
    go_wp2_with (fail)
    clear d0 d1 d2 d3 d4 d5 d6
    refine (E3.out _).mono ?_
    rintro e w3 ⟨rfl, hf3⟩
    have hb3 := hf3.keep HB2.out id
    have hl3 := Lib.hid (HL2.out.trans ((Foot.below hf3).mono HL2.out.size))
    obtain ⟨d0, d1, d2, d3, d4, d5, d6⟩ := cells7 hb3
    have HB3 := Lib.hid hb3; clear hb3
    have HL3 := hl3; clear hl3 hf3
    clear HB2 HL2
    go_wp2_with (fail)
    clear d0 d1 d2 d3 d4 d5 d6
    refine (awake6 _).mono ?_
    rintro e w4 ⟨rfl, hf4⟩
    have hb4 := (hf4.block _ (blk_lt HB3.out)).trans HB3.out
    have hl4 := Lib.hid (HL3.out.trans (hf4.mono HL3.out.size))
    obtain ⟨d0, d1, d2, d3, d4, d5, d6⟩ := cells7 hb4
    have HB4 := Lib.hid hb4; clear hb4
    have HL4 := hl4; clear hl4 hf4
    clear HB3 HL3
    go_wp2
    go_ret
    exact ⟨rfl, HL4.out⟩
  · have h4 : (data.size : Int) ≤ 2000 := by omega
    have h3 : (data.size : Int) ≤ 66000 := by omega
    have H := Lib.hid h; clear h h1
    go_enter Try.func3, Try.ntmps3
    go_wp2_with (fail)
    refine (E1.out _).mono ?_
    rintro e w1 ⟨rfl, hf1⟩
    have hb1 := (hf1.block _ (blk_lt HB0.out)).trans HB0.out
    have hl1 := Lib.hid (HL0.out.trans (hf1.mono HL0.out.size))
    obtain ⟨d0, d1, d2, d3, d4, d5, d6⟩ := cells7 hb1
    have HB1 := Lib.hid hb1; clear hb1
    have HL1 := hl1; clear hl1 hf1
    clear HB0 HL0
    go_wp2_with (fail)
    clear d0 d1 d2 d3 d4 d5 d6
    refine (E2.out _).mono ?_
    rintro e w2 ⟨rfl, hf2⟩
    have hb2 := hf2.keep HB1.out id
    have hl2 := Lib.hid (HL1.out.trans ((Foot.below hf2).mono HL1.out.size))
    obtain ⟨d0, d1, d2, d3, d4, d5, d6⟩ := cells7 hb2
    have HB2 := Lib.hid hb2; clear hb2
    have HL2 := hl2; clear hl2 hf2
    clear HB1 HL1
    go_wp2_with (fail)
    clear d0 d1 d2 d3 d4 d5 d6
    refine (E3.out _).mono ?_
    rintro e w3 ⟨rfl, hf3⟩
    have hb3 := hf3.keep HB2.out id
    have hl3 := Lib.hid (HL2.out.trans ((Foot.below hf3).mono HL2.out.size))
    obtain ⟨d0, d1, d2, d3, d4, d5, d6⟩ := cells7 hb3
    have HB3 := Lib.hid hb3; clear hb3
    have HL3 := hl3; clear hl3 hf3
    clear HB2 HL2
    go_wp2_with (fail)
    clear d0 d1 d2 d3 d4 d5 d6
    refine (awake6 _).mono ?_
    rintro e w4 ⟨rfl, hf4⟩
    have hb4 := (hf4.block _ (blk_lt HB3.out)).trans HB3.out
    have hl4 := Lib.hid (HL3.out.trans (hf4.mono HL3.out.size))
    obtain ⟨d0, d1, d2, d3, d4, d5, d6⟩ := cells7 hb4
    have HB4 := Lib.hid hb4; clear hb4
    have HL4 := hl4; clear hl4 hf4
    clear HB3 HL3
    go_wp2
    go_ret
    exact ⟨rfl, HL4.out⟩

end Go.Proofs.Ytcmgfmpmapnckaa
