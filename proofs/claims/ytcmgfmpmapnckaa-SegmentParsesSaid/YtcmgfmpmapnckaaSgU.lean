/- Walks of segment.tcp and segment.udp: a right segment's bytes, without their check sum. Written by wip/regseg.py. -/
import Derived.Test.YtcmgfmpmapnckaaSgR
namespace Go.Proofs.Ytcmgfmpmapnckaa
open Go.RowKit
set_option linter.unusedVariables false
set_option linter.unusedSimpArgs false

set_option maxHeartbeats 4000000 in
set_option maxRecDepth 100000 in
theorem udp_any (sp dp : Nat) (seq ack : Int) (flags window : Int) (data : ByteArray) (w : World) (h1 : sp ≤ 65535) (h2 : dp ≤ 65535) (h3 : data.size ≤ 65507) :
    Calls Try.prog 41 #[.agg #[.int .i64 (sp : Nat), .int .i64 (dp : Nat), .int .u32 seq, .int .u32 ack, .int .i64 flags, .int .i64 window, .string data]] w fun e w' => e = .returned (.tuple #[.string ⟨(beAll 2 [sp, dp, 8 + data.size, 0] ++ data.data.toList).toArray⟩, .int .i64 6]) ∧ Below w.heap.size w w' := by
  go_enter Try.func41, Try.ntmps41
  go_wp2_with (fail)
  have hb0 : ((w.alloc (.cells #[.int .i64 (sp : Nat), .int .i64 (dp : Nat), .int .u32 seq, .int .u32 ack, .int .i64 flags, .int .i64 window, .string data] 24)).alloc (.cells #[.bool false, .pointer none, .slice none 0 0] 103)).heap[w.heap.size]? = some (.cells #[.int .i64 (sp : Nat), .int .i64 (dp : Nat), .int .u32 seq, .int .u32 ack, .int .i64 flags, .int .i64 window, .string data] 24 (0, 0)) := blk_alloc (blk_new _ _) _
  have hwr0 := WrAt.new (w.alloc (.cells #[.int .i64 (sp : Nat), .int .i64 (dp : Nat), .int .u32 seq, .int .u32 ack, .int .i64 flags, .int .i64 window, .string data] 24))
  have hbel : Below w.heap.size w ((w.alloc (.cells #[.int .i64 (sp : Nat), .int .i64 (dp : Nat), .int .u32 seq, .int .u32 ack, .int .i64 flags, .int .i64 window, .string data] 24)).alloc (.cells #[.bool false, .pointer none, .slice none 0 0] 103)) := ((Below.refl _ _).alloc (Nat.le_refl _) _).alloc (by simp) _
  have hsz : (w.alloc (.cells #[.int .i64 (sp : Nat), .int .i64 (dp : Nat), .int .u32 seq, .int .u32 ack, .int .i64 flags, .int .i64 window, .string data] 24)).heap.size = w.heap.size + 1 := by simp
  rw [hsz] at hwr0
  have hBs : w.heap.size + 1 ≤ ((w.alloc (.cells #[.int .i64 (sp : Nat), .int .i64 (dp : Nat), .int .u32 seq, .int .u32 ack, .int .i64 flags, .int .i64 window, .string data] 24)).alloc (.cells #[.bool false, .pointer none, .slice none 0 0] 103)).heap.size := by simp
  generalize (w.alloc (.cells #[.int .i64 (sp : Nat), .int .i64 (dp : Nat), .int .u32 seq, .int .u32 ack, .int .i64 flags, .int .i64 window, .string data] 24)).alloc (.cells #[.bool false, .pointer none, .slice none 0 0] 103) = w0 at *
  clear hsz
  generalize hbs0 : w.heap.size = bs at *
  have HX := Lib.hid hbs0; clear hbs0
  have hne : bs ≠ bs + 1 := by omega
  have hle : bs ≤ bs + 1 := by omega
  generalize hb0' : bs + 1 = b at *
  have HX1 := Lib.hid hb0'; clear hb0'
  have hbs : ∀ w', WStep b b w0.drew w' → w'.heap[bs]? = some (.cells #[.int .i64 (sp : Nat), .int .i64 (dp : Nat), .int .u32 seq, .int .u32 ack, .int .i64 flags, .int .i64 window, .string data] 24 (0, 0)) := fun w' h => h.keep (w := w0.drew) hb0 (by decide) hne
  have hwr : ∀ k w', WrAt b w' b (match k with | 0 => [] | 1 => [] ++ beAll 2 [sp, dp, 8 + data.size, 0] | _ => [] ++ beAll 2 [sp, dp, 8 + data.size, 0] ++ cat [data]) → b < w'.heap.size := fun k w' h => h.lt
  have hal : ∀ k w' o, WrAt b w' b (match k with | 0 => [] | 1 => [] ++ beAll 2 [sp, dp, 8 + data.size, 0] | _ => [] ++ beAll 2 [sp, dp, 8 + data.size, 0] ++ cat [data]) → WrAt b (w'.alloc o) b (match k with | 0 => [] | 1 => [] ++ beAll 2 [sp, dp, 8 + data.size, 0] | _ => [] ++ beAll 2 [sp, dp, 8 + data.size, 0] ++ cat [data]) := fun k w' o h => h.alloc o
  have hbase : ∀ w', WStep b b w0.drew w' → b ≤ w'.heap.size := fun w' h => by have := h.size; have : w0.drew.heap.size = w0.heap.size := rfl; omega
  have hst0 : WrAt b w0.drew b [] := hwr0
  refine wp_region_list (by kernel_rfl) [(some 9, []), (some 10, []), (some 11, [1]), (some 12, []), (some 13, [3]), (some 14, []), (some 15, [5]), (some 16, [6]), (some 17, [7]), (some 18, [2, 4, 8]), (some 19, [0, 9]), (some 20, []), (some 21, [11]), (some 22, [12]), (some 23, [10, 13, 10])] [10, 14] 30 15 (WStep b b) (fun i v w => match i with | 0 => v = .pointer (some ⟨b, 0, none⟩) | 1 => v = .pointer (some ⟨bs, 0, none⟩) | 2 => v = .int .i64 (sp : Nat) | 3 => v = .pointer (some ⟨bs, 1, none⟩) | 4 => v = .int .i64 (dp : Nat) | 5 => v = .pointer (some ⟨bs, 6, none⟩) | 6 => v = .string data | 7 => v = .int .i64 data.size | 8 => v = .int .i64 (8 + data.size : Nat) | 9 => ∃ x, v = .slice (some ⟨x, 0, none⟩) 4 4 ∧ IntsAt w x 3 .i64 [sp, dp, 8 + data.size, 0] ∧ x ≠ b | 10 => v = .pointer (some ⟨b, 0, none⟩) | 11 => v = .pointer (some ⟨bs, 6, none⟩) | 12 => v = .string data | 13 => ∃ x, v = .slice (some ⟨x, 0, none⟩) 1 1 ∧ StrsAt w x [data] ∧ x ≠ b | 14 => v = .pointer (some ⟨b, 0, none⟩) | _ => True) (fun k w => WrAt b w b (match k with | 0 => [] | 1 => [] ++ beAll 2 [sp, dp, 8 + data.size, 0] | _ => [] ++ beAll 2 [sp, dp, 8 + data.size, 0] ++ cat [data])) (by kernel_rfl) rfl rfl (by kernel_rfl) (WStep.refl b b) (fun _ _ _ => WStep.trans) ?Hst ?hst ?howed ?hfin
  case Hst =>
    intro i v w w2 _ hH hR
    rcases i with _ | i
    · first | exact hH | (obtain ⟨x, h1, h2, h3⟩ := hH; exact ⟨x, h1, hR.keep h2 (by decide) h3, h3⟩)
    rcases i with _ | i
    · first | exact hH | (obtain ⟨x, h1, h2, h3⟩ := hH; exact ⟨x, h1, hR.keep h2 (by decide) h3, h3⟩)
    rcases i with _ | i
    · first | exact hH | (obtain ⟨x, h1, h2, h3⟩ := hH; exact ⟨x, h1, hR.keep h2 (by decide) h3, h3⟩)
    rcases i with _ | i
    · first | exact hH | (obtain ⟨x, h1, h2, h3⟩ := hH; exact ⟨x, h1, hR.keep h2 (by decide) h3, h3⟩)
    rcases i with _ | i
    · first | exact hH | (obtain ⟨x, h1, h2, h3⟩ := hH; exact ⟨x, h1, hR.keep h2 (by decide) h3, h3⟩)
    rcases i with _ | i
    · first | exact hH | (obtain ⟨x, h1, h2, h3⟩ := hH; exact ⟨x, h1, hR.keep h2 (by decide) h3, h3⟩)
    rcases i with _ | i
    · first | exact hH | (obtain ⟨x, h1, h2, h3⟩ := hH; exact ⟨x, h1, hR.keep h2 (by decide) h3, h3⟩)
    rcases i with _ | i
    · first | exact hH | (obtain ⟨x, h1, h2, h3⟩ := hH; exact ⟨x, h1, hR.keep h2 (by decide) h3, h3⟩)
    rcases i with _ | i
    · first | exact hH | (obtain ⟨x, h1, h2, h3⟩ := hH; exact ⟨x, h1, hR.keep h2 (by decide) h3, h3⟩)
    rcases i with _ | i
    · first | exact hH | (obtain ⟨x, h1, h2, h3⟩ := hH; exact ⟨x, h1, hR.keep h2 (by decide) h3, h3⟩)
    rcases i with _ | i
    · first | exact hH | (obtain ⟨x, h1, h2, h3⟩ := hH; exact ⟨x, h1, hR.keep h2 (by decide) h3, h3⟩)
    rcases i with _ | i
    · first | exact hH | (obtain ⟨x, h1, h2, h3⟩ := hH; exact ⟨x, h1, hR.keep h2 (by decide) h3, h3⟩)
    rcases i with _ | i
    · first | exact hH | (obtain ⟨x, h1, h2, h3⟩ := hH; exact ⟨x, h1, hR.keep h2 (by decide) h3, h3⟩)
    rcases i with _ | i
    · first | exact hH | (obtain ⟨x, h1, h2, h3⟩ := hH; exact ⟨x, h1, hR.keep h2 (by decide) h3, h3⟩)
    rcases i with _ | i
    · first | exact hH | (obtain ⟨x, h1, h2, h3⟩ := hH; exact ⟨x, h1, hR.keep h2 (by decide) h3, h3⟩)
    exact trivial
  case hst =>
    exact hst0
  case howed =>
    refine owed_cons (owed_cons (owed_cons (owed_cons (owed_cons (owed_cons (owed_cons (owed_cons (owed_cons (owed_cons (owed_cons (owed_cons (owed_cons (owed_cons (owed_cons (owed_nil _) ?_) ?_) ?_) ?_) ?_) ?_) ?_) ?_) ?_) ?_) ?_) ?_) ?_) ?_) ?_
    · intro a w vs k K hR hp hi hS s1 s2 s3 hK
      have e4 : a.tmps.getD 4 undef = .pointer (some ⟨b, 0, none⟩) := old_of hi (by kernel_rfl) rfl
      have e4_ := e4; rw [Array.getD_eq_getD_getElem?] at e4_
      clear hp hi s1 s2 s3
      refine wpOp_of rfl rfl ?_
      go_simp
      exact hK _ _ rfl ((WStep.refl b b) _) hS
    · intro a w vs k K hR hp hi hS s1 s2 s3 hK
      have e1 : a.tmps.getD 1 undef = .pointer (some ⟨bs, 0, none⟩) := old_of hi (by kernel_rfl) rfl
      have e1_ := e1; rw [Array.getD_eq_getD_getElem?] at e1_
      clear hp hi s1 s2 s3
      refine wpOp_of rfl rfl ?_
      go_simp
      exact hK _ _ rfl ((WStep.refl b b) _) hS
    · intro a w vs k K hR hp hi hS s1 s2 s3 hK
      have e10 : a.tmps.getD 10 undef = .pointer (some ⟨bs, 0, none⟩) := ((hp 1 (by decide)).2 10 rfl).trans (hp 1 (by decide)).1
      have e10_ := e10; rw [Array.getD_eq_getD_getElem?] at e10_
      clear hp hi s1 s2 s3
      have hc : w.cell? ⟨bs, 0, none⟩ = some (.int .i64 (sp : Nat)) := (blk_cell (hbs w hR) 0).trans rfl
      refine wpOp_of rfl rfl ?_
      go_simp
      exact hK _ _ rfl ((WStep.refl b b) _) hS
    · intro a w vs k K hR hp hi hS s1 s2 s3 hK
      have e1 : a.tmps.getD 1 undef = .pointer (some ⟨bs, 0, none⟩) := old_of hi (by kernel_rfl) rfl
      have e1_ := e1; rw [Array.getD_eq_getD_getElem?] at e1_
      clear hp hi s1 s2 s3
      refine wpOp_of rfl rfl ?_
      go_simp
      exact hK _ _ rfl ((WStep.refl b b) _) hS
    · intro a w vs k K hR hp hi hS s1 s2 s3 hK
      have e12 : a.tmps.getD 12 undef = .pointer (some ⟨bs, 1, none⟩) := ((hp 3 (by decide)).2 12 rfl).trans (hp 3 (by decide)).1
      have e12_ := e12; rw [Array.getD_eq_getD_getElem?] at e12_
      clear hp hi s1 s2 s3
      have hc : w.cell? ⟨bs, 1, none⟩ = some (.int .i64 (dp : Nat)) := (blk_cell (hbs w hR) 1).trans rfl
      refine wpOp_of rfl rfl ?_
      go_simp
      exact hK _ _ rfl ((WStep.refl b b) _) hS
    · intro a w vs k K hR hp hi hS s1 s2 s3 hK
      have e1 : a.tmps.getD 1 undef = .pointer (some ⟨bs, 0, none⟩) := old_of hi (by kernel_rfl) rfl
      have e1_ := e1; rw [Array.getD_eq_getD_getElem?] at e1_
      clear hp hi s1 s2 s3
      refine wpOp_of rfl rfl ?_
      go_simp
      exact hK _ _ rfl ((WStep.refl b b) _) hS
    · intro a w vs k K hR hp hi hS s1 s2 s3 hK
      have e14 : a.tmps.getD 14 undef = .pointer (some ⟨bs, 6, none⟩) := ((hp 5 (by decide)).2 14 rfl).trans (hp 5 (by decide)).1
      have e14_ := e14; rw [Array.getD_eq_getD_getElem?] at e14_
      clear hp hi s1 s2 s3
      have hc : w.cell? ⟨bs, 6, none⟩ = some (.string data) := (blk_cell (hbs w hR) 6).trans rfl
      refine wpOp_of rfl rfl ?_
      go_simp
      exact hK _ _ rfl ((WStep.refl b b) _) hS
    · intro a w vs k K hR hp hi hS s1 s2 s3 hK
      have e15 : a.tmps.getD 15 undef = .string data := ((hp 6 (by decide)).2 15 rfl).trans (hp 6 (by decide)).1
      have e15_ := e15; rw [Array.getD_eq_getD_getElem?] at e15_
      clear hp hi s1 s2 s3
      refine wpOp_of rfl rfl ?_
      go_simp
      exact hK _ _ rfl ((WStep.refl b b) _) hS
    · intro a w vs k K hR hp hi hS s1 s2 s3 hK
      have e16 : a.tmps.getD 16 undef = .int .i64 data.size := ((hp 7 (by decide)).2 16 rfl).trans (hp 7 (by decide)).1
      have e16_ := e16; rw [Array.getD_eq_getD_getElem?] at e16_
      clear hp hi s1 s2 s3
      have hw8 : IntKind.i64.wrap (8 + (data.size : Int)) = 8 + data.size := IntWalk.i64_in _ (by omega)
      refine wpOp_of rfl rfl ?_
      go_simp
      exact hK _ _ (congrArg (Value.int .i64) (by omega)) (WStep.refl _ _ _) hS
    · intro a w vs k K hR hp hi hS s1 s2 s3 hK
      have e11 : a.tmps.getD 11 undef = .int .i64 (sp : Nat) := ((hp 2 (by decide)).2 11 rfl).trans (hp 2 (by decide)).1
      have e13 : a.tmps.getD 13 undef = .int .i64 (dp : Nat) := ((hp 4 (by decide)).2 13 rfl).trans (hp 4 (by decide)).1
      have e17 : a.tmps.getD 17 undef = .int .i64 (8 + data.size : Nat) := ((hp 8 (by decide)).2 17 rfl).trans (hp 8 (by decide)).1
      have e11_ := e11; rw [Array.getD_eq_getD_getElem?] at e11_
      have e13_ := e13; rw [Array.getD_eq_getD_getElem?] at e13_
      have e17_ := e17; rw [Array.getD_eq_getD_getElem?] at e17_
      clear hp hi s1 s2 s3
      refine wpOp_of rfl rfl ?_
      go_simp
      refine hK _ _ ⟨_, rfl, ?_, ?_⟩ ((WStep.refl _ _ _).alloc _) (hal k w _ hS)
      · first | (unfold IntsAt; rw [blk_new]; simp; done) | (unfold StrsAt; rw [blk_new]; simp; done)
      · have := hwr k w hS; omega
    · intro a w vs k K hR hp hi hS s1 s2 s3 hK
      have e9 : a.tmps.getD 9 undef = .pointer (some ⟨b, 0, none⟩) := ((hp 0 (by decide)).2 9 rfl).trans (hp 0 (by decide)).1
      have e18 : a.tmps.getD 18 undef = vs 9 := (hp 9 (by decide)).2 18 rfl
      have h9 := (hp 9 (by decide)).1
      obtain ⟨x, hv, hx, hxb⟩ := h9
      rw [hv] at e18
      obtain rfl := s1 0 (by decide) rfl
      have e9_ := e9; rw [Array.getD_eq_getD_getElem?] at e9_
      have e18_ := e18; rw [Array.getD_eq_getD_getElem?] at e18_
      clear hp hi s1 s2 s3
      refine wpOp_of rfl rfl ?_
      go_simp
      refine (short_w b b x [] [sp, dp, 8 + data.size, 0] 4 4 w rfl hS hx (by simp) (by intro z hz; simp at hz; omega) (by simp) (hbase w hR)).mono ?_
      rintro e w1 ⟨rfl, hw1, hs1⟩
      exact hK _ _ rfl hs1 (hw1)
    · intro a w vs k K hR hp hi hS s1 s2 s3 hK
      have e1 : a.tmps.getD 1 undef = .pointer (some ⟨bs, 0, none⟩) := old_of hi (by kernel_rfl) rfl
      have e1_ := e1; rw [Array.getD_eq_getD_getElem?] at e1_
      clear hp hi s1 s2 s3
      refine wpOp_of rfl rfl ?_
      go_simp
      exact hK _ _ rfl ((WStep.refl b b) _) hS
    · intro a w vs k K hR hp hi hS s1 s2 s3 hK
      have e20 : a.tmps.getD 20 undef = .pointer (some ⟨bs, 6, none⟩) := ((hp 11 (by decide)).2 20 rfl).trans (hp 11 (by decide)).1
      have e20_ := e20; rw [Array.getD_eq_getD_getElem?] at e20_
      clear hp hi s1 s2 s3
      have hc : w.cell? ⟨bs, 6, none⟩ = some (.string data) := (blk_cell (hbs w hR) 6).trans rfl
      refine wpOp_of rfl rfl ?_
      go_simp
      exact hK _ _ rfl ((WStep.refl b b) _) hS
    · intro a w vs k K hR hp hi hS s1 s2 s3 hK
      have e21 : a.tmps.getD 21 undef = .string data := ((hp 12 (by decide)).2 21 rfl).trans (hp 12 (by decide)).1
      have e21_ := e21; rw [Array.getD_eq_getD_getElem?] at e21_
      clear hp hi s1 s2 s3
      refine wpOp_of rfl rfl ?_
      go_simp
      refine hK _ _ ⟨_, rfl, ?_, ?_⟩ ((WStep.refl _ _ _).alloc _) (hal k w _ hS)
      · first | (unfold IntsAt; rw [blk_new]; simp; done) | (unfold StrsAt; rw [blk_new]; simp; done)
      · have := hwr k w hS; omega
    · intro a w vs k K hR hp hi hS s1 s2 s3 hK
      have e19 : a.tmps.getD 19 undef = .pointer (some ⟨b, 0, none⟩) := ((hp 10 (by decide)).2 19 rfl).trans (hp 10 (by decide)).1
      have e22 : a.tmps.getD 22 undef = vs 13 := (hp 13 (by decide)).2 22 rfl
      have h13 := (hp 13 (by decide)).1
      obtain ⟨x, hv, hx, hxb⟩ := h13
      rw [hv] at e22
      obtain rfl := s1 1 (by decide) rfl
      have e19_ := e19; rw [Array.getD_eq_getD_getElem?] at e19_
      have e22_ := e22; rw [Array.getD_eq_getD_getElem?] at e22_
      clear hp hi s1 s2 s3
      refine wpOp_of rfl rfl ?_
      go_simp
      refine (text_w b b x _ [data] 1 1 w rfl hS hx (by simp) (by simp [cat, beAll_length]; omega) (hbase w hR)).mono ?_
      rintro e w1 ⟨rfl, hw1, hs1⟩
      exact hK _ _ rfl hs1 (hw1)
  case hfin =>
    intro vs w5 hR5 hH hS5
    have q0 : vs 0 = .pointer (some ⟨b, 0, none⟩) := hH 0 (by decide)
    have q1 : vs 1 = .pointer (some ⟨bs, 0, none⟩) := hH 1 (by decide)
    have q2 : vs 2 = .int .i64 (sp : Nat) := hH 2 (by decide)
    have q3 : vs 3 = .pointer (some ⟨bs, 1, none⟩) := hH 3 (by decide)
    have q4 : vs 4 = .int .i64 (dp : Nat) := hH 4 (by decide)
    have q5 : vs 5 = .pointer (some ⟨bs, 6, none⟩) := hH 5 (by decide)
    have q6 : vs 6 = .string data := hH 6 (by decide)
    have q7 : vs 7 = .int .i64 data.size := hH 7 (by decide)
    have q8 : vs 8 = .int .i64 (8 + data.size : Nat) := hH 8 (by decide)
    have q10 : vs 10 = .pointer (some ⟨b, 0, none⟩) := hH 10 (by decide)
    have q11 : vs 11 = .pointer (some ⟨bs, 6, none⟩) := hH 11 (by decide)
    have q12 : vs 12 = .string data := hH 12 (by decide)
    have q14 : vs 14 = .pointer (some ⟨b, 0, none⟩) := hH 14 (by decide)
    clear hH
    simp only [putL, Act.put, List.setIfInBounds_toArray, List.set_cons_zero, List.set_cons_succ, q0, q1, q2, q3, q4, q5, q6, q7, q8, q10, q11, q12, q14]
    clear q0 q1 q2 q3 q4 q5 q6 q7 q8 q10 q11 q12 q14
    have hlast : (b, w5.heap.size) = (b, w5.heap.size) := rfl
    clear hlast
    generalize hvs : vs = vs0 at *
    have HS := Lib.hid hS5; clear hS5
    clear hvs
    go_wp2_with (go_at_call 46; refine (done_w b b _ _ HS.out (by simp [cat, beAll_length]; omega)).mono ?_; rintro e w6 ⟨rfl, hs6⟩)
    go_ret2
    refine ⟨by simp [cat], ?_⟩
    have h1 := (hR5.trans hs6).below (hbase _ (WStep.refl _ _ _))
    rw [HX.out]
    exact hbel.trans ((Below.drew (Below.refl _ w0)).trans (h1.mono hle))

theorem or_flags (fl : Nat) (h : fl ≤ 63) : bits .or .i64 20480 (fl : Int) = ((20480 + fl : Nat) : Int) := by
  rw [bits_join .i64 62 (by decide) (fun n h0 h1 => IntWalk.i64_in _ (by omega)) 12 _ _ (by omega) (by decide) (by decide) (by omega) (by omega) (by omega)]
  omega

set_option maxHeartbeats 4000000 in
set_option maxRecDepth 100000 in
theorem tcp_any (sp dp : Nat) (seq ack : Nat) (fl wi : Nat) (data : ByteArray) (w : World) (h1 : sp ≤ 65535) (h2 : dp ≤ 65535) (h3 : data.size ≤ 65507) (h4 : wi ≤ 65535) (h5 : fl ≤ 63) (h6 : seq < 4294967296) (h7 : ack < 4294967296) :
    Calls Try.prog 40 #[.agg #[.int .i64 (sp : Nat), .int .i64 (dp : Nat), .int .u32 (seq : Nat), .int .u32 (ack : Nat), .int .i64 (fl : Nat), .int .i64 (wi : Nat), .string data]] w fun e w' => e = .returned (.tuple #[.string ⟨(beAll 2 [sp, dp] ++ beAll 4 [seq, ack] ++ beAll 2 [20480 + fl, wi, 0, 0] ++ data.data.toList).toArray⟩, .int .i64 16]) ∧ Below w.heap.size w w' := by
  go_enter Try.func40, Try.ntmps40
  go_wp2_with (fail)
  have hb0 : ((w.alloc (.cells #[.int .i64 (sp : Nat), .int .i64 (dp : Nat), .int .u32 (seq : Nat), .int .u32 (ack : Nat), .int .i64 (fl : Nat), .int .i64 (wi : Nat), .string data] 24)).alloc (.cells #[.bool false, .pointer none, .slice none 0 0] 103)).heap[w.heap.size]? = some (.cells #[.int .i64 (sp : Nat), .int .i64 (dp : Nat), .int .u32 (seq : Nat), .int .u32 (ack : Nat), .int .i64 (fl : Nat), .int .i64 (wi : Nat), .string data] 24 (0, 0)) := blk_alloc (blk_new _ _) _
  have hwr0 := WrAt.new (w.alloc (.cells #[.int .i64 (sp : Nat), .int .i64 (dp : Nat), .int .u32 (seq : Nat), .int .u32 (ack : Nat), .int .i64 (fl : Nat), .int .i64 (wi : Nat), .string data] 24))
  have hbel : Below w.heap.size w ((w.alloc (.cells #[.int .i64 (sp : Nat), .int .i64 (dp : Nat), .int .u32 (seq : Nat), .int .u32 (ack : Nat), .int .i64 (fl : Nat), .int .i64 (wi : Nat), .string data] 24)).alloc (.cells #[.bool false, .pointer none, .slice none 0 0] 103)) := ((Below.refl _ _).alloc (Nat.le_refl _) _).alloc (by simp) _
  have hsz : (w.alloc (.cells #[.int .i64 (sp : Nat), .int .i64 (dp : Nat), .int .u32 (seq : Nat), .int .u32 (ack : Nat), .int .i64 (fl : Nat), .int .i64 (wi : Nat), .string data] 24)).heap.size = w.heap.size + 1 := by simp
  rw [hsz] at hwr0
  have hBs : w.heap.size + 1 ≤ ((w.alloc (.cells #[.int .i64 (sp : Nat), .int .i64 (dp : Nat), .int .u32 (seq : Nat), .int .u32 (ack : Nat), .int .i64 (fl : Nat), .int .i64 (wi : Nat), .string data] 24)).alloc (.cells #[.bool false, .pointer none, .slice none 0 0] 103)).heap.size := by simp
  generalize (w.alloc (.cells #[.int .i64 (sp : Nat), .int .i64 (dp : Nat), .int .u32 (seq : Nat), .int .u32 (ack : Nat), .int .i64 (fl : Nat), .int .i64 (wi : Nat), .string data] 24)).alloc (.cells #[.bool false, .pointer none, .slice none 0 0] 103) = w0 at *
  clear hsz
  generalize hbs0 : w.heap.size = bs at *
  have HX := Lib.hid hbs0; clear hbs0
  have hne : bs ≠ bs + 1 := by omega
  have hle : bs ≤ bs + 1 := by omega
  generalize hb0' : bs + 1 = b at *
  have HX1 := Lib.hid hb0'; clear hb0'
  have hbs : ∀ w', WStep b b w0.drew w' → w'.heap[bs]? = some (.cells #[.int .i64 (sp : Nat), .int .i64 (dp : Nat), .int .u32 (seq : Nat), .int .u32 (ack : Nat), .int .i64 (fl : Nat), .int .i64 (wi : Nat), .string data] 24 (0, 0)) := fun w' h => h.keep (w := w0.drew) hb0 (by decide) hne
  have hwr : ∀ k w', WrAt b w' b (match k with | 0 => [] | 1 => [] ++ beAll 2 [sp, dp] | 2 => [] ++ beAll 2 [sp, dp] ++ beAll 4 [seq, ack] | 3 => [] ++ beAll 2 [sp, dp] ++ beAll 4 [seq, ack] ++ beAll 2 [20480 + fl, wi, 0, 0] | _ => [] ++ beAll 2 [sp, dp] ++ beAll 4 [seq, ack] ++ beAll 2 [20480 + fl, wi, 0, 0] ++ cat [data]) → b < w'.heap.size := fun k w' h => h.lt
  have hal : ∀ k w' o, WrAt b w' b (match k with | 0 => [] | 1 => [] ++ beAll 2 [sp, dp] | 2 => [] ++ beAll 2 [sp, dp] ++ beAll 4 [seq, ack] | 3 => [] ++ beAll 2 [sp, dp] ++ beAll 4 [seq, ack] ++ beAll 2 [20480 + fl, wi, 0, 0] | _ => [] ++ beAll 2 [sp, dp] ++ beAll 4 [seq, ack] ++ beAll 2 [20480 + fl, wi, 0, 0] ++ cat [data]) → WrAt b (w'.alloc o) b (match k with | 0 => [] | 1 => [] ++ beAll 2 [sp, dp] | 2 => [] ++ beAll 2 [sp, dp] ++ beAll 4 [seq, ack] | 3 => [] ++ beAll 2 [sp, dp] ++ beAll 4 [seq, ack] ++ beAll 2 [20480 + fl, wi, 0, 0] | _ => [] ++ beAll 2 [sp, dp] ++ beAll 4 [seq, ack] ++ beAll 2 [20480 + fl, wi, 0, 0] ++ cat [data]) := fun k w' o h => h.alloc o
  have hbase : ∀ w', WStep b b w0.drew w' → b ≤ w'.heap.size := fun w' h => by have := h.size; have : w0.drew.heap.size = w0.heap.size := rfl; omega
  have hst0 : WrAt b w0.drew b [] := hwr0
  refine wp_region_list (by kernel_rfl) [(some 9, []), (some 10, []), (some 11, [1]), (some 12, []), (some 13, [3]), (some 14, [2, 4]), (some 15, [0, 5]), (some 16, []), (some 17, [7]), (some 18, []), (some 19, [9]), (some 20, [8, 10]), (some 21, [6, 11, 6]), (some 22, []), (some 23, [13]), (some 24, [14]), (some 25, []), (some 26, [16]), (some 27, [15, 17]), (some 28, [12, 18, 12]), (some 29, []), (some 30, [20]), (some 31, [21]), (some 32, [19, 22, 19])] [6, 12, 19, 23] 39 24 (WStep b b) (fun i v w => match i with | 0 => v = .pointer (some ⟨b, 0, none⟩) | 1 => v = .pointer (some ⟨bs, 0, none⟩) | 2 => v = .int .i64 (sp : Nat) | 3 => v = .pointer (some ⟨bs, 1, none⟩) | 4 => v = .int .i64 (dp : Nat) | 5 => ∃ x, v = .slice (some ⟨x, 0, none⟩) 2 2 ∧ IntsAt w x 3 .i64 [sp, dp] ∧ x ≠ b | 6 => v = .pointer (some ⟨b, 0, none⟩) | 7 => v = .pointer (some ⟨bs, 2, none⟩) | 8 => v = .int .u32 (seq : Nat) | 9 => v = .pointer (some ⟨bs, 3, none⟩) | 10 => v = .int .u32 (ack : Nat) | 11 => ∃ x, v = .slice (some ⟨x, 0, none⟩) 2 2 ∧ IntsAt w x 22 .u32 [seq, ack] ∧ x ≠ b | 12 => v = .pointer (some ⟨b, 0, none⟩) | 13 => v = .pointer (some ⟨bs, 4, none⟩) | 14 => v = .int .i64 (fl : Nat) | 15 => v = .int .i64 (20480 + fl : Nat) | 16 => v = .pointer (some ⟨bs, 5, none⟩) | 17 => v = .int .i64 (wi : Nat) | 18 => ∃ x, v = .slice (some ⟨x, 0, none⟩) 4 4 ∧ IntsAt w x 3 .i64 [20480 + fl, wi, 0, 0] ∧ x ≠ b | 19 => v = .pointer (some ⟨b, 0, none⟩) | 20 => v = .pointer (some ⟨bs, 6, none⟩) | 21 => v = .string data | 22 => ∃ x, v = .slice (some ⟨x, 0, none⟩) 1 1 ∧ StrsAt w x [data] ∧ x ≠ b | 23 => v = .pointer (some ⟨b, 0, none⟩) | _ => True) (fun k w => WrAt b w b (match k with | 0 => [] | 1 => [] ++ beAll 2 [sp, dp] | 2 => [] ++ beAll 2 [sp, dp] ++ beAll 4 [seq, ack] | 3 => [] ++ beAll 2 [sp, dp] ++ beAll 4 [seq, ack] ++ beAll 2 [20480 + fl, wi, 0, 0] | _ => [] ++ beAll 2 [sp, dp] ++ beAll 4 [seq, ack] ++ beAll 2 [20480 + fl, wi, 0, 0] ++ cat [data])) (by kernel_rfl) rfl rfl (by kernel_rfl) (WStep.refl b b) (fun _ _ _ => WStep.trans) ?Hst ?hst ?howed ?hfin
  case Hst =>
    intro i v w w2 _ hH hR
    rcases i with _ | i
    · first | exact hH | (obtain ⟨x, h1, h2, h3⟩ := hH; exact ⟨x, h1, hR.keep h2 (by decide) h3, h3⟩)
    rcases i with _ | i
    · first | exact hH | (obtain ⟨x, h1, h2, h3⟩ := hH; exact ⟨x, h1, hR.keep h2 (by decide) h3, h3⟩)
    rcases i with _ | i
    · first | exact hH | (obtain ⟨x, h1, h2, h3⟩ := hH; exact ⟨x, h1, hR.keep h2 (by decide) h3, h3⟩)
    rcases i with _ | i
    · first | exact hH | (obtain ⟨x, h1, h2, h3⟩ := hH; exact ⟨x, h1, hR.keep h2 (by decide) h3, h3⟩)
    rcases i with _ | i
    · first | exact hH | (obtain ⟨x, h1, h2, h3⟩ := hH; exact ⟨x, h1, hR.keep h2 (by decide) h3, h3⟩)
    rcases i with _ | i
    · first | exact hH | (obtain ⟨x, h1, h2, h3⟩ := hH; exact ⟨x, h1, hR.keep h2 (by decide) h3, h3⟩)
    rcases i with _ | i
    · first | exact hH | (obtain ⟨x, h1, h2, h3⟩ := hH; exact ⟨x, h1, hR.keep h2 (by decide) h3, h3⟩)
    rcases i with _ | i
    · first | exact hH | (obtain ⟨x, h1, h2, h3⟩ := hH; exact ⟨x, h1, hR.keep h2 (by decide) h3, h3⟩)
    rcases i with _ | i
    · first | exact hH | (obtain ⟨x, h1, h2, h3⟩ := hH; exact ⟨x, h1, hR.keep h2 (by decide) h3, h3⟩)
    rcases i with _ | i
    · first | exact hH | (obtain ⟨x, h1, h2, h3⟩ := hH; exact ⟨x, h1, hR.keep h2 (by decide) h3, h3⟩)
    rcases i with _ | i
    · first | exact hH | (obtain ⟨x, h1, h2, h3⟩ := hH; exact ⟨x, h1, hR.keep h2 (by decide) h3, h3⟩)
    rcases i with _ | i
    · first | exact hH | (obtain ⟨x, h1, h2, h3⟩ := hH; exact ⟨x, h1, hR.keep h2 (by decide) h3, h3⟩)
    rcases i with _ | i
    · first | exact hH | (obtain ⟨x, h1, h2, h3⟩ := hH; exact ⟨x, h1, hR.keep h2 (by decide) h3, h3⟩)
    rcases i with _ | i
    · first | exact hH | (obtain ⟨x, h1, h2, h3⟩ := hH; exact ⟨x, h1, hR.keep h2 (by decide) h3, h3⟩)
    rcases i with _ | i
    · first | exact hH | (obtain ⟨x, h1, h2, h3⟩ := hH; exact ⟨x, h1, hR.keep h2 (by decide) h3, h3⟩)
    rcases i with _ | i
    · first | exact hH | (obtain ⟨x, h1, h2, h3⟩ := hH; exact ⟨x, h1, hR.keep h2 (by decide) h3, h3⟩)
    rcases i with _ | i
    · first | exact hH | (obtain ⟨x, h1, h2, h3⟩ := hH; exact ⟨x, h1, hR.keep h2 (by decide) h3, h3⟩)
    rcases i with _ | i
    · first | exact hH | (obtain ⟨x, h1, h2, h3⟩ := hH; exact ⟨x, h1, hR.keep h2 (by decide) h3, h3⟩)
    rcases i with _ | i
    · first | exact hH | (obtain ⟨x, h1, h2, h3⟩ := hH; exact ⟨x, h1, hR.keep h2 (by decide) h3, h3⟩)
    rcases i with _ | i
    · first | exact hH | (obtain ⟨x, h1, h2, h3⟩ := hH; exact ⟨x, h1, hR.keep h2 (by decide) h3, h3⟩)
    rcases i with _ | i
    · first | exact hH | (obtain ⟨x, h1, h2, h3⟩ := hH; exact ⟨x, h1, hR.keep h2 (by decide) h3, h3⟩)
    rcases i with _ | i
    · first | exact hH | (obtain ⟨x, h1, h2, h3⟩ := hH; exact ⟨x, h1, hR.keep h2 (by decide) h3, h3⟩)
    rcases i with _ | i
    · first | exact hH | (obtain ⟨x, h1, h2, h3⟩ := hH; exact ⟨x, h1, hR.keep h2 (by decide) h3, h3⟩)
    rcases i with _ | i
    · first | exact hH | (obtain ⟨x, h1, h2, h3⟩ := hH; exact ⟨x, h1, hR.keep h2 (by decide) h3, h3⟩)
    exact trivial
  case hst =>
    exact hst0
  case howed =>
    refine owed_cons (owed_cons (owed_cons (owed_cons (owed_cons (owed_cons (owed_cons (owed_cons (owed_cons (owed_cons (owed_cons (owed_cons (owed_cons (owed_cons (owed_cons (owed_cons (owed_cons (owed_cons (owed_cons (owed_cons (owed_cons (owed_cons (owed_cons (owed_cons (owed_nil _) ?_) ?_) ?_) ?_) ?_) ?_) ?_) ?_) ?_) ?_) ?_) ?_) ?_) ?_) ?_) ?_) ?_) ?_) ?_) ?_) ?_) ?_) ?_) ?_
    · intro a w vs k K hR hp hi hS s1 s2 s3 hK
      have e4 : a.tmps.getD 4 undef = .pointer (some ⟨b, 0, none⟩) := old_of hi (by kernel_rfl) rfl
      have e4_ := e4; rw [Array.getD_eq_getD_getElem?] at e4_
      clear hp hi s1 s2 s3
      refine wpOp_of rfl rfl ?_
      go_simp
      exact hK _ _ rfl ((WStep.refl b b) _) hS
    · intro a w vs k K hR hp hi hS s1 s2 s3 hK
      have e1 : a.tmps.getD 1 undef = .pointer (some ⟨bs, 0, none⟩) := old_of hi (by kernel_rfl) rfl
      have e1_ := e1; rw [Array.getD_eq_getD_getElem?] at e1_
      clear hp hi s1 s2 s3
      refine wpOp_of rfl rfl ?_
      go_simp
      exact hK _ _ rfl ((WStep.refl b b) _) hS
    · intro a w vs k K hR hp hi hS s1 s2 s3 hK
      have e10 : a.tmps.getD 10 undef = .pointer (some ⟨bs, 0, none⟩) := ((hp 1 (by decide)).2 10 rfl).trans (hp 1 (by decide)).1
      have e10_ := e10; rw [Array.getD_eq_getD_getElem?] at e10_
      clear hp hi s1 s2 s3
      have hc : w.cell? ⟨bs, 0, none⟩ = some (.int .i64 (sp : Nat)) := (blk_cell (hbs w hR) 0).trans rfl
      refine wpOp_of rfl rfl ?_
      go_simp
      exact hK _ _ rfl ((WStep.refl b b) _) hS
    · intro a w vs k K hR hp hi hS s1 s2 s3 hK
      have e1 : a.tmps.getD 1 undef = .pointer (some ⟨bs, 0, none⟩) := old_of hi (by kernel_rfl) rfl
      have e1_ := e1; rw [Array.getD_eq_getD_getElem?] at e1_
      clear hp hi s1 s2 s3
      refine wpOp_of rfl rfl ?_
      go_simp
      exact hK _ _ rfl ((WStep.refl b b) _) hS
    · intro a w vs k K hR hp hi hS s1 s2 s3 hK
      have e12 : a.tmps.getD 12 undef = .pointer (some ⟨bs, 1, none⟩) := ((hp 3 (by decide)).2 12 rfl).trans (hp 3 (by decide)).1
      have e12_ := e12; rw [Array.getD_eq_getD_getElem?] at e12_
      clear hp hi s1 s2 s3
      have hc : w.cell? ⟨bs, 1, none⟩ = some (.int .i64 (dp : Nat)) := (blk_cell (hbs w hR) 1).trans rfl
      refine wpOp_of rfl rfl ?_
      go_simp
      exact hK _ _ rfl ((WStep.refl b b) _) hS
    · intro a w vs k K hR hp hi hS s1 s2 s3 hK
      have e11 : a.tmps.getD 11 undef = .int .i64 (sp : Nat) := ((hp 2 (by decide)).2 11 rfl).trans (hp 2 (by decide)).1
      have e13 : a.tmps.getD 13 undef = .int .i64 (dp : Nat) := ((hp 4 (by decide)).2 13 rfl).trans (hp 4 (by decide)).1
      have e11_ := e11; rw [Array.getD_eq_getD_getElem?] at e11_
      have e13_ := e13; rw [Array.getD_eq_getD_getElem?] at e13_
      clear hp hi s1 s2 s3
      refine wpOp_of rfl rfl ?_
      go_simp
      refine hK _ _ ⟨_, rfl, ?_, ?_⟩ ((WStep.refl _ _ _).alloc _) (hal k w _ hS)
      · first | (unfold IntsAt; rw [blk_new]; simp; done) | (unfold StrsAt; rw [blk_new]; simp; done)
      · have := hwr k w hS; omega
    · intro a w vs k K hR hp hi hS s1 s2 s3 hK
      have e9 : a.tmps.getD 9 undef = .pointer (some ⟨b, 0, none⟩) := ((hp 0 (by decide)).2 9 rfl).trans (hp 0 (by decide)).1
      have e14 : a.tmps.getD 14 undef = vs 5 := (hp 5 (by decide)).2 14 rfl
      have h5 := (hp 5 (by decide)).1
      obtain ⟨x, hv, hx, hxb⟩ := h5
      rw [hv] at e14
      obtain rfl := s1 0 (by decide) rfl
      have e9_ := e9; rw [Array.getD_eq_getD_getElem?] at e9_
      have e14_ := e14; rw [Array.getD_eq_getD_getElem?] at e14_
      clear hp hi s1 s2 s3
      refine wpOp_of rfl rfl ?_
      go_simp
      refine (short_w b b x [] [sp, dp] 2 2 w rfl hS hx (by simp) (by intro z hz; simp at hz; omega) (by simp) (hbase w hR)).mono ?_
      rintro e w1 ⟨rfl, hw1, hs1⟩
      exact hK _ _ rfl hs1 (hw1)
    · intro a w vs k K hR hp hi hS s1 s2 s3 hK
      have e1 : a.tmps.getD 1 undef = .pointer (some ⟨bs, 0, none⟩) := old_of hi (by kernel_rfl) rfl
      have e1_ := e1; rw [Array.getD_eq_getD_getElem?] at e1_
      clear hp hi s1 s2 s3
      refine wpOp_of rfl rfl ?_
      go_simp
      exact hK _ _ rfl ((WStep.refl b b) _) hS
    · intro a w vs k K hR hp hi hS s1 s2 s3 hK
      have e16 : a.tmps.getD 16 undef = .pointer (some ⟨bs, 2, none⟩) := ((hp 7 (by decide)).2 16 rfl).trans (hp 7 (by decide)).1
      have e16_ := e16; rw [Array.getD_eq_getD_getElem?] at e16_
      clear hp hi s1 s2 s3
      have hc : w.cell? ⟨bs, 2, none⟩ = some (.int .u32 (seq : Nat)) := (blk_cell (hbs w hR) 2).trans rfl
      refine wpOp_of rfl rfl ?_
      go_simp
      exact hK _ _ rfl ((WStep.refl b b) _) hS
    · intro a w vs k K hR hp hi hS s1 s2 s3 hK
      have e1 : a.tmps.getD 1 undef = .pointer (some ⟨bs, 0, none⟩) := old_of hi (by kernel_rfl) rfl
      have e1_ := e1; rw [Array.getD_eq_getD_getElem?] at e1_
      clear hp hi s1 s2 s3
      refine wpOp_of rfl rfl ?_
      go_simp
      exact hK _ _ rfl ((WStep.refl b b) _) hS
    · intro a w vs k K hR hp hi hS s1 s2 s3 hK
      have e18 : a.tmps.getD 18 undef = .pointer (some ⟨bs, 3, none⟩) := ((hp 9 (by decide)).2 18 rfl).trans (hp 9 (by decide)).1
      have e18_ := e18; rw [Array.getD_eq_getD_getElem?] at e18_
      clear hp hi s1 s2 s3
      have hc : w.cell? ⟨bs, 3, none⟩ = some (.int .u32 (ack : Nat)) := (blk_cell (hbs w hR) 3).trans rfl
      refine wpOp_of rfl rfl ?_
      go_simp
      exact hK _ _ rfl ((WStep.refl b b) _) hS
    · intro a w vs k K hR hp hi hS s1 s2 s3 hK
      have e17 : a.tmps.getD 17 undef = .int .u32 (seq : Nat) := ((hp 8 (by decide)).2 17 rfl).trans (hp 8 (by decide)).1
      have e19 : a.tmps.getD 19 undef = .int .u32 (ack : Nat) := ((hp 10 (by decide)).2 19 rfl).trans (hp 10 (by decide)).1
      have e17_ := e17; rw [Array.getD_eq_getD_getElem?] at e17_
      have e19_ := e19; rw [Array.getD_eq_getD_getElem?] at e19_
      clear hp hi s1 s2 s3
      refine wpOp_of rfl rfl ?_
      go_simp
      refine hK _ _ ⟨_, rfl, ?_, ?_⟩ ((WStep.refl _ _ _).alloc _) (hal k w _ hS)
      · first | (unfold IntsAt; rw [blk_new]; simp; done) | (unfold StrsAt; rw [blk_new]; simp; done)
      · have := hwr k w hS; omega
    · intro a w vs k K hR hp hi hS s1 s2 s3 hK
      have e15 : a.tmps.getD 15 undef = .pointer (some ⟨b, 0, none⟩) := ((hp 6 (by decide)).2 15 rfl).trans (hp 6 (by decide)).1
      have e20 : a.tmps.getD 20 undef = vs 11 := (hp 11 (by decide)).2 20 rfl
      have h11 := (hp 11 (by decide)).1
      obtain ⟨x, hv, hx, hxb⟩ := h11
      rw [hv] at e20
      obtain rfl := s1 1 (by decide) rfl
      have e15_ := e15; rw [Array.getD_eq_getD_getElem?] at e15_
      have e20_ := e20; rw [Array.getD_eq_getD_getElem?] at e20_
      clear hp hi s1 s2 s3
      refine wpOp_of rfl rfl ?_
      go_simp
      refine (word_w b b x _ [seq, ack] 2 2 w rfl hS hx (by simp) (by intro z hz; simp at hz; omega) (by simp [beAll_length]) (hbase w hR)).mono ?_
      rintro e w1 ⟨rfl, hw1, hs1⟩
      exact hK _ _ rfl hs1 (hw1)
    · intro a w vs k K hR hp hi hS s1 s2 s3 hK
      have e1 : a.tmps.getD 1 undef = .pointer (some ⟨bs, 0, none⟩) := old_of hi (by kernel_rfl) rfl
      have e1_ := e1; rw [Array.getD_eq_getD_getElem?] at e1_
      clear hp hi s1 s2 s3
      refine wpOp_of rfl rfl ?_
      go_simp
      exact hK _ _ rfl ((WStep.refl b b) _) hS
    · intro a w vs k K hR hp hi hS s1 s2 s3 hK
      have e22 : a.tmps.getD 22 undef = .pointer (some ⟨bs, 4, none⟩) := ((hp 13 (by decide)).2 22 rfl).trans (hp 13 (by decide)).1
      have e22_ := e22; rw [Array.getD_eq_getD_getElem?] at e22_
      clear hp hi s1 s2 s3
      have hc : w.cell? ⟨bs, 4, none⟩ = some (.int .i64 (fl : Nat)) := (blk_cell (hbs w hR) 4).trans rfl
      refine wpOp_of rfl rfl ?_
      go_simp
      exact hK _ _ rfl ((WStep.refl b b) _) hS
    · intro a w vs k K hR hp hi hS s1 s2 s3 hK
      have e23 : a.tmps.getD 23 undef = .int .i64 (fl : Nat) := ((hp 14 (by decide)).2 23 rfl).trans (hp 14 (by decide)).1
      have e23_ := e23; rw [Array.getD_eq_getD_getElem?] at e23_
      clear hp hi s1 s2 s3
      have hor : bits .or .i64 20480 (fl : Int) = ((20480 + fl : Nat) : Int) := or_flags fl h5
      refine wpOp_of rfl rfl ?_
      go_simp
      exact hK _ _ rfl (WStep.refl _ _ _) hS
    · intro a w vs k K hR hp hi hS s1 s2 s3 hK
      have e1 : a.tmps.getD 1 undef = .pointer (some ⟨bs, 0, none⟩) := old_of hi (by kernel_rfl) rfl
      have e1_ := e1; rw [Array.getD_eq_getD_getElem?] at e1_
      clear hp hi s1 s2 s3
      refine wpOp_of rfl rfl ?_
      go_simp
      exact hK _ _ rfl ((WStep.refl b b) _) hS
    · intro a w vs k K hR hp hi hS s1 s2 s3 hK
      have e25 : a.tmps.getD 25 undef = .pointer (some ⟨bs, 5, none⟩) := ((hp 16 (by decide)).2 25 rfl).trans (hp 16 (by decide)).1
      have e25_ := e25; rw [Array.getD_eq_getD_getElem?] at e25_
      clear hp hi s1 s2 s3
      have hc : w.cell? ⟨bs, 5, none⟩ = some (.int .i64 (wi : Nat)) := (blk_cell (hbs w hR) 5).trans rfl
      refine wpOp_of rfl rfl ?_
      go_simp
      exact hK _ _ rfl ((WStep.refl b b) _) hS
    · intro a w vs k K hR hp hi hS s1 s2 s3 hK
      have e24 : a.tmps.getD 24 undef = .int .i64 (20480 + fl : Nat) := ((hp 15 (by decide)).2 24 rfl).trans (hp 15 (by decide)).1
      have e26 : a.tmps.getD 26 undef = .int .i64 (wi : Nat) := ((hp 17 (by decide)).2 26 rfl).trans (hp 17 (by decide)).1
      have e24_ := e24; rw [Array.getD_eq_getD_getElem?] at e24_
      have e26_ := e26; rw [Array.getD_eq_getD_getElem?] at e26_
      clear hp hi s1 s2 s3
      refine wpOp_of rfl rfl ?_
      go_simp
      refine hK _ _ ⟨_, rfl, ?_, ?_⟩ ((WStep.refl _ _ _).alloc _) (hal k w _ hS)
      · first | (unfold IntsAt; rw [blk_new]; simp; done) | (unfold StrsAt; rw [blk_new]; simp; done)
      · have := hwr k w hS; omega
    · intro a w vs k K hR hp hi hS s1 s2 s3 hK
      have e21 : a.tmps.getD 21 undef = .pointer (some ⟨b, 0, none⟩) := ((hp 12 (by decide)).2 21 rfl).trans (hp 12 (by decide)).1
      have e27 : a.tmps.getD 27 undef = vs 18 := (hp 18 (by decide)).2 27 rfl
      have h18 := (hp 18 (by decide)).1
      obtain ⟨x, hv, hx, hxb⟩ := h18
      rw [hv] at e27
      obtain rfl := s1 2 (by decide) rfl
      have e21_ := e21; rw [Array.getD_eq_getD_getElem?] at e21_
      have e27_ := e27; rw [Array.getD_eq_getD_getElem?] at e27_
      clear hp hi s1 s2 s3
      refine wpOp_of rfl rfl ?_
      go_simp
      refine (short_w b b x _ [20480 + fl, wi, 0, 0] 4 4 w rfl hS hx (by simp) (by intro z hz; simp at hz; omega) (by simp [beAll_length]) (hbase w hR)).mono ?_
      rintro e w1 ⟨rfl, hw1, hs1⟩
      exact hK _ _ rfl hs1 (hw1)
    · intro a w vs k K hR hp hi hS s1 s2 s3 hK
      have e1 : a.tmps.getD 1 undef = .pointer (some ⟨bs, 0, none⟩) := old_of hi (by kernel_rfl) rfl
      have e1_ := e1; rw [Array.getD_eq_getD_getElem?] at e1_
      clear hp hi s1 s2 s3
      refine wpOp_of rfl rfl ?_
      go_simp
      exact hK _ _ rfl ((WStep.refl b b) _) hS
    · intro a w vs k K hR hp hi hS s1 s2 s3 hK
      have e29 : a.tmps.getD 29 undef = .pointer (some ⟨bs, 6, none⟩) := ((hp 20 (by decide)).2 29 rfl).trans (hp 20 (by decide)).1
      have e29_ := e29; rw [Array.getD_eq_getD_getElem?] at e29_
      clear hp hi s1 s2 s3
      have hc : w.cell? ⟨bs, 6, none⟩ = some (.string data) := (blk_cell (hbs w hR) 6).trans rfl
      refine wpOp_of rfl rfl ?_
      go_simp
      exact hK _ _ rfl ((WStep.refl b b) _) hS
    · intro a w vs k K hR hp hi hS s1 s2 s3 hK
      have e30 : a.tmps.getD 30 undef = .string data := ((hp 21 (by decide)).2 30 rfl).trans (hp 21 (by decide)).1
      have e30_ := e30; rw [Array.getD_eq_getD_getElem?] at e30_
      clear hp hi s1 s2 s3
      refine wpOp_of rfl rfl ?_
      go_simp
      refine hK _ _ ⟨_, rfl, ?_, ?_⟩ ((WStep.refl _ _ _).alloc _) (hal k w _ hS)
      · first | (unfold IntsAt; rw [blk_new]; simp; done) | (unfold StrsAt; rw [blk_new]; simp; done)
      · have := hwr k w hS; omega
    · intro a w vs k K hR hp hi hS s1 s2 s3 hK
      have e28 : a.tmps.getD 28 undef = .pointer (some ⟨b, 0, none⟩) := ((hp 19 (by decide)).2 28 rfl).trans (hp 19 (by decide)).1
      have e31 : a.tmps.getD 31 undef = vs 22 := (hp 22 (by decide)).2 31 rfl
      have h22 := (hp 22 (by decide)).1
      obtain ⟨x, hv, hx, hxb⟩ := h22
      rw [hv] at e31
      obtain rfl := s1 3 (by decide) rfl
      have e28_ := e28; rw [Array.getD_eq_getD_getElem?] at e28_
      have e31_ := e31; rw [Array.getD_eq_getD_getElem?] at e31_
      clear hp hi s1 s2 s3
      refine wpOp_of rfl rfl ?_
      go_simp
      refine (text_w b b x _ [data] 1 1 w rfl hS hx (by simp) (by simp [cat, beAll_length]; omega) (hbase w hR)).mono ?_
      rintro e w1 ⟨rfl, hw1, hs1⟩
      exact hK _ _ rfl hs1 (hw1)
  case hfin =>
    intro vs w5 hR5 hH hS5
    have q0 : vs 0 = .pointer (some ⟨b, 0, none⟩) := hH 0 (by decide)
    have q1 : vs 1 = .pointer (some ⟨bs, 0, none⟩) := hH 1 (by decide)
    have q2 : vs 2 = .int .i64 (sp : Nat) := hH 2 (by decide)
    have q3 : vs 3 = .pointer (some ⟨bs, 1, none⟩) := hH 3 (by decide)
    have q4 : vs 4 = .int .i64 (dp : Nat) := hH 4 (by decide)
    have q6 : vs 6 = .pointer (some ⟨b, 0, none⟩) := hH 6 (by decide)
    have q7 : vs 7 = .pointer (some ⟨bs, 2, none⟩) := hH 7 (by decide)
    have q8 : vs 8 = .int .u32 (seq : Nat) := hH 8 (by decide)
    have q9 : vs 9 = .pointer (some ⟨bs, 3, none⟩) := hH 9 (by decide)
    have q10 : vs 10 = .int .u32 (ack : Nat) := hH 10 (by decide)
    have q12 : vs 12 = .pointer (some ⟨b, 0, none⟩) := hH 12 (by decide)
    have q13 : vs 13 = .pointer (some ⟨bs, 4, none⟩) := hH 13 (by decide)
    have q14 : vs 14 = .int .i64 (fl : Nat) := hH 14 (by decide)
    have q15 : vs 15 = .int .i64 (20480 + fl : Nat) := hH 15 (by decide)
    have q16 : vs 16 = .pointer (some ⟨bs, 5, none⟩) := hH 16 (by decide)
    have q17 : vs 17 = .int .i64 (wi : Nat) := hH 17 (by decide)
    have q19 : vs 19 = .pointer (some ⟨b, 0, none⟩) := hH 19 (by decide)
    have q20 : vs 20 = .pointer (some ⟨bs, 6, none⟩) := hH 20 (by decide)
    have q21 : vs 21 = .string data := hH 21 (by decide)
    have q23 : vs 23 = .pointer (some ⟨b, 0, none⟩) := hH 23 (by decide)
    clear hH
    simp only [putL, Act.put, List.setIfInBounds_toArray, List.set_cons_zero, List.set_cons_succ, q0, q1, q2, q3, q4, q6, q7, q8, q9, q10, q12, q13, q14, q15, q16, q17, q19, q20, q21, q23]
    clear q0 q1 q2 q3 q4 q6 q7 q8 q9 q10 q12 q13 q14 q15 q16 q17 q19 q20 q21 q23
    have hlast : (b, w5.heap.size) = (b, w5.heap.size) := rfl
    clear hlast
    generalize hvs : vs = vs0 at *
    have HS := Lib.hid hS5; clear hS5
    clear hvs
    go_wp2_with (go_at_call 46; refine (done_w b b _ _ HS.out (by simp [cat, beAll_length]; omega)).mono ?_; rintro e w6 ⟨rfl, hs6⟩)
    go_ret2
    refine ⟨by simp [cat], ?_⟩
    have h1 := (hR5.trans hs6).below (hbase _ (WStep.refl _ _ _))
    rw [HX.out]
    exact hbel.trans ((Below.drew (Below.refl _ w0)).trans (h1.mono hle))

end Go.Proofs.Ytcmgfmpmapnckaa
