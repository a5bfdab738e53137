/- Walks of segment's parser (UDP), Parse and Ports. Written by wip/regparu.py. -/
import Derived.Test.YtcmgfmpmapnckaaSgP
namespace Go.Proofs.Ytcmgfmpmapnckaa
open Go.RowKit
set_option linter.unusedVariables false
set_option linter.unusedSimpArgs false

/-- What parser.udp answers, and what it has read. -/
def udpCode (b : ByteArray) (g : Bool) : Nat :=
  if b.size < 8 then 2 else if rnum (tl b 4) 2 < 8 then 3 else if b.size < rnum (tl b 4) 2 then 2 else if rnum (tl b 4) 2 < b.size then 5 else if rnum (tl b 6) 2 = 0 then 0 else if g then 0 else 4
def udpSeg (b : ByteArray) : Seg := ⟨(rnum (tl b 0) 2 : Nat), (rnum (tl b 2) 2 : Nat), 0, 0, 0, 0, tl b 8⟩
def UdpPost (pb rb : Nat) (b : ByteArray) (g : Bool) (w : World) (e : Ending) (w' : World) : Prop :=
  e = .returned (.int .i64 (udpCode b g : Nat)) ∧ Foot (fun k => k = pb ∨ k = rb) w w' ∧ (udpCode b g = 0 → ∃ r, PAt w' pb rb b g (udpSeg b) r)

set_option maxHeartbeats 4000000 in
set_option maxRecDepth 100000 in
theorem parUdp_short (pb rb : Nat) (b : ByteArray) (g : Bool) (w : World) (h : PAt w pb rb b g ⟨0, 0, 0, 0, 0, 0, ⟨#[]⟩⟩ (tl b 0)) (hb : b.size < 8) :
    Calls Try.prog 51 #[.pointer (some ⟨pb, 0, none⟩)] w (UdpPost pb rb b g w) := by
  have c1 := h.c1
  have hcode : udpCode b g = 2 := by unfold udpCode; rw [if_pos hb]
  have HC := Lib.hid hcode; clear hcode
  have H := Lib.hid h; clear h
  go_enter Try.func51, Try.ntmps51
  go_wp2
  go_ret
  exact ⟨by rw [HC.out]; rfl, Foot.refl _ _, fun h => by rw [HC.out] at h; exact absurd h (by decide)⟩

set_option maxHeartbeats 8000000 in
set_option maxRecDepth 100000 in
theorem parUdp_any (pb rb : Nat) (b : ByteArray) (g : Bool) (w : World) (h : PAt w pb rb b g ⟨0, 0, 0, 0, 0, 0, ⟨#[]⟩⟩ (tl b 0)) (hb : 8 ≤ b.size) (hmax : b.size ≤ maxLen) :
    Calls Try.prog 51 #[.pointer (some ⟨pb, 0, none⟩)] w (UdpPost pb rb b g w) := by
  have c1 := h.c1
  have hst0 := h.drew
  have H := Lib.hid h; clear h
  go_enter Try.func51, Try.ntmps51
  go_wp2
  clear c1
  have hc0 : ∀ k w, (St5 (fun w => PAt w pb rb b g (⟨0, 0, 0, 0, 0, 0, ⟨#[]⟩⟩ : Seg) (tl b 0)) (fun w => PAt w pb rb b g (⟨0, 0, 0, 0, 0, 0, ⟨#[]⟩⟩ : Seg) (tl b 2)) (fun w => PAt w pb rb b g (⟨0, 0, 0, 0, 0, 0, ⟨#[]⟩⟩ : Seg) (tl b 4)) (fun w => PAt w pb rb b g { (⟨0, 0, 0, 0, 0, 0, ⟨#[]⟩⟩ : Seg) with sport := (rnum (tl b 0) 2 : Nat) } (tl b 4)) (fun w => PAt w pb rb b g { { (⟨0, 0, 0, 0, 0, 0, ⟨#[]⟩⟩ : Seg) with sport := (rnum (tl b 0) 2 : Nat) } with dport := (rnum (tl b 2) 2 : Nat) } (tl b 4))) k w → w.cell? ⟨pb, 0, none⟩ = some (.pointer (some ⟨rb, 0, none⟩)) := fun k w h => by rcases k with _ | _ | _ | _ | k <;> exact PAt.c0 h
  refine wp_region_list (by kernel_rfl) [(some 11, []), (some 12, []), (some 13, []), (some 14, [2]), (some 15, [3]), (some 16, [4]), (some 17, [5]), (some 18, []), (some 19, [7]), (some 20, [8]), (some 21, [9]), (some 22, [10, 6]), (some 23, [0, 0, 2, 3, 4, 5, 6, 10, 11]), (some 24, [12, 0, 2, 3, 4, 5, 6, 10, 11]), (some 25, [13, 0, 2, 3, 4, 5, 6, 10, 11]), (none, [14, 6, 11, 0, 2, 3, 4, 5, 6, 10, 11]), (some 26, [1, 0, 1, 2, 3, 4, 5, 6, 7, 8, 9, 10, 11, 12, 13, 14, 15]), (some 27, [16, 0, 1, 2, 3, 4, 5, 6, 7, 8, 9, 10, 11, 12, 13, 14, 15]), (some 28, [17, 0, 1, 2, 3, 4, 5, 6, 7, 8, 9, 10, 11, 12, 13, 14, 15]), (none, [18, 11, 15, 0, 1, 2, 3, 4, 5, 6, 7, 8, 9, 10, 11, 12, 13, 14, 15])] [6, 11, 15, 19] 77 20 (PF pb rb) (fun i v w => match i with | 0 => v = .pointer (some ⟨pb, 0, none⟩) | 1 => v = .pointer (some ⟨pb, 0, none⟩) | 2 => v = .pointer (some ⟨pb, 0, none⟩) | 3 => v = .pointer (some ⟨pb, 0, none⟩) | 4 => v = .pointer (some ⟨pb, 0, none⟩) | 5 => v = .pointer (some ⟨rb, 0, none⟩) | 6 => v = .int .i64 (rnum (tl b 0) 2 : Nat) | 7 => v = .pointer (some ⟨pb, 0, none⟩) | 8 => v = .pointer (some ⟨pb, 0, none⟩) | 9 => v = .pointer (some ⟨pb, 0, none⟩) | 10 => v = .pointer (some ⟨rb, 0, none⟩) | 11 => v = .int .i64 (rnum (tl b 2) 2 : Nat) | 12 => v = .pointer (some ⟨pb, 0, none⟩) | 13 => v = .pointer (some ⟨pb, 3, none⟩) | 14 => v = .pointer (some ⟨pb, 3, none⟩) | 15 => True | 16 => v = .pointer (some ⟨pb, 0, none⟩) | 17 => v = .pointer (some ⟨pb, 3, none⟩) | 18 => v = .pointer (some ⟨pb, 4, none⟩) | 19 => True | _ => True) (St5 (fun w => PAt w pb rb b g (⟨0, 0, 0, 0, 0, 0, ⟨#[]⟩⟩ : Seg) (tl b 0)) (fun w => PAt w pb rb b g (⟨0, 0, 0, 0, 0, 0, ⟨#[]⟩⟩ : Seg) (tl b 2)) (fun w => PAt w pb rb b g (⟨0, 0, 0, 0, 0, 0, ⟨#[]⟩⟩ : Seg) (tl b 4)) (fun w => PAt w pb rb b g { (⟨0, 0, 0, 0, 0, 0, ⟨#[]⟩⟩ : Seg) with sport := (rnum (tl b 0) 2 : Nat) } (tl b 4)) (fun w => PAt w pb rb b g { { (⟨0, 0, 0, 0, 0, 0, ⟨#[]⟩⟩ : Seg) with sport := (rnum (tl b 0) 2 : Nat) } with dport := (rnum (tl b 2) 2 : Nat) } (tl b 4))) (by kernel_rfl) rfl rfl (by kernel_rfl) (Foot.refl _) (fun _ _ _ => Foot.trans) ?Hst ?hst ?howed ?hfin
  case Hst =>
    intro i v w w2 _ hH _
    rcases i with _ | _ | _ | _ | _ | _ | _ | _ | _ | _ | _ | _ | _ | _ | _ | _ | _ | _ | _ | _ | _ <;> exact hH
  case hst =>
    exact hst0
  case howed =>
    refine owed_cons (owed_cons (owed_cons (owed_cons (owed_cons (owed_cons (owed_cons (owed_cons (owed_cons (owed_cons (owed_cons (owed_cons (owed_cons (owed_cons (owed_cons (owed_cons (owed_cons (owed_cons (owed_cons (owed_cons (owed_nil _) ?_) ?_) ?_) ?_) ?_) ?_) ?_) ?_) ?_) ?_) ?_) ?_) ?_) ?_) ?_) ?_) ?_) ?_) ?_) ?_
    · intro a w vs k K hR hp hi hS s1 s2 s3 hK
      have e0 : a.tmps.getD 0 undef = .pointer (some ⟨pb, 0, none⟩) := old_of hi (by kernel_rfl) rfl
      have e0_ := e0; rw [Array.getD_eq_getD_getElem?] at e0_
      clear hp hi s1 s2 s3
      refine wpOp_of rfl rfl ?_
      go_simp
      exact hK _ _ rfl (Foot.refl _ _) hS
    · intro a w vs k K hR hp hi hS s1 s2 s3 hK
      have e0 : a.tmps.getD 0 undef = .pointer (some ⟨pb, 0, none⟩) := old_of hi (by kernel_rfl) rfl
      have e0_ := e0; rw [Array.getD_eq_getD_getElem?] at e0_
      clear hp hi s1 s2 s3
      refine wpOp_of rfl rfl ?_
      go_simp
      exact hK _ _ rfl (Foot.refl _ _) hS
    · intro a w vs k K hR hp hi hS s1 s2 s3 hK
      have e0 : a.tmps.getD 0 undef = .pointer (some ⟨pb, 0, none⟩) := old_of hi (by kernel_rfl) rfl
      have e0_ := e0; rw [Array.getD_eq_getD_getElem?] at e0_
      clear hp hi s1 s2 s3
      refine wpOp_of rfl rfl ?_
      go_simp
      exact hK _ _ rfl (Foot.refl _ _) hS
    · intro a w vs k K hR hp hi hS s1 s2 s3 hK
      have e13 : a.tmps.getD 13 undef = .pointer (some ⟨pb, 0, none⟩) := ((hp 2 (by decide)).2 13 rfl).trans (hp 2 (by decide)).1
      have e13_ := e13; rw [Array.getD_eq_getD_getElem?] at e13_
      clear hp hi s1 s2 s3
      refine wpOp_of rfl rfl ?_
      go_simp
      exact hK _ _ rfl (Foot.refl _ _) hS
    · intro a w vs k K hR hp hi hS s1 s2 s3 hK
      have e14 : a.tmps.getD 14 undef = .pointer (some ⟨pb, 0, none⟩) := ((hp 3 (by decide)).2 14 rfl).trans (hp 3 (by decide)).1
      have e14_ := e14; rw [Array.getD_eq_getD_getElem?] at e14_
      clear hp hi s1 s2 s3
      refine wpOp_of rfl rfl ?_
      go_simp
      exact hK _ _ rfl (Foot.refl _ _) hS
    · intro a w vs k K hR hp hi hS s1 s2 s3 hK
      have e15 : a.tmps.getD 15 undef = .pointer (some ⟨pb, 0, none⟩) := ((hp 4 (by decide)).2 15 rfl).trans (hp 4 (by decide)).1
      have e15_ := e15; rw [Array.getD_eq_getD_getElem?] at e15_
      clear hp hi s1 s2 s3
      have hc := (hc0 k w hS)
      refine wpOp_of rfl rfl ?_
      go_simp
      exact hK _ _ rfl (Foot.refl _ _) hS
    · intro a w vs k K hR hp hi hS s1 s2 s3 hK
      have e16 : a.tmps.getD 16 undef = .pointer (some ⟨rb, 0, none⟩) := ((hp 5 (by decide)).2 16 rfl).trans (hp 5 (by decide)).1
      obtain rfl := s1 0 (by decide) rfl
      have e16_ := e16; rw [Array.getD_eq_getD_getElem?] at e16_
      clear hp hi s1 s2 s3
      refine wpOp_of rfl rfl ?_
      go_simp
      refine (short_at rb b 0 w (PAt.rdr hS) (by omega) hmax).mono ?_
      rintro e w1 ⟨rfl, hr1, hf1⟩
      exact hK _ _ rfl (PF.rd hf1) (PAt.read hS hr1 hf1)
    · intro a w vs k K hR hp hi hS s1 s2 s3 hK
      have e0 : a.tmps.getD 0 undef = .pointer (some ⟨pb, 0, none⟩) := old_of hi (by kernel_rfl) rfl
      have e0_ := e0; rw [Array.getD_eq_getD_getElem?] at e0_
      clear hp hi s1 s2 s3
      refine wpOp_of rfl rfl ?_
      go_simp
      exact hK _ _ rfl (Foot.refl _ _) hS
    · intro a w vs k K hR hp hi hS s1 s2 s3 hK
      have e18 : a.tmps.getD 18 undef = .pointer (some ⟨pb, 0, none⟩) := ((hp 7 (by decide)).2 18 rfl).trans (hp 7 (by decide)).1
      have e18_ := e18; rw [Array.getD_eq_getD_getElem?] at e18_
      clear hp hi s1 s2 s3
      refine wpOp_of rfl rfl ?_
      go_simp
      exact hK _ _ rfl (Foot.refl _ _) hS
    · intro a w vs k K hR hp hi hS s1 s2 s3 hK
      have e19 : a.tmps.getD 19 undef = .pointer (some ⟨pb, 0, none⟩) := ((hp 8 (by decide)).2 19 rfl).trans (hp 8 (by decide)).1
      have e19_ := e19; rw [Array.getD_eq_getD_getElem?] at e19_
      clear hp hi s1 s2 s3
      refine wpOp_of rfl rfl ?_
      go_simp
      exact hK _ _ rfl (Foot.refl _ _) hS
    · intro a w vs k K hR hp hi hS s1 s2 s3 hK
      have e20 : a.tmps.getD 20 undef = .pointer (some ⟨pb, 0, none⟩) := ((hp 9 (by decide)).2 20 rfl).trans (hp 9 (by decide)).1
      have e20_ := e20; rw [Array.getD_eq_getD_getElem?] at e20_
      clear hp hi s1 s2 s3
      have hc := (hc0 k w hS)
      refine wpOp_of rfl rfl ?_
      go_simp
      exact hK _ _ rfl (Foot.refl _ _) hS
    · intro a w vs k K hR hp hi hS s1 s2 s3 hK
      have e21 : a.tmps.getD 21 undef = .pointer (some ⟨rb, 0, none⟩) := ((hp 10 (by decide)).2 21 rfl).trans (hp 10 (by decide)).1
      obtain rfl := s1 1 (by decide) rfl
      have e21_ := e21; rw [Array.getD_eq_getD_getElem?] at e21_
      clear hp hi s1 s2 s3
      refine wpOp_of rfl rfl ?_
      go_simp
      refine (short_at rb b 2 w (PAt.rdr hS) (by omega) hmax).mono ?_
      rintro e w1 ⟨rfl, hr1, hf1⟩
      exact hK _ _ rfl (PF.rd hf1) (PAt.read hS hr1 hf1)
    · intro a w vs k K hR hp hi hS s1 s2 s3 hK
      have e11 : a.tmps.getD 11 undef = .pointer (some ⟨pb, 0, none⟩) := ((hp 0 (by decide)).2 11 rfl).trans (hp 0 (by decide)).1
      have e11_ := e11; rw [Array.getD_eq_getD_getElem?] at e11_
      clear hp hi s1 s2 s3
      refine wpOp_of rfl rfl ?_
      go_simp
      exact hK _ _ rfl (Foot.refl _ _) hS
    · intro a w vs k K hR hp hi hS s1 s2 s3 hK
      have e23 : a.tmps.getD 23 undef = .pointer (some ⟨pb, 0, none⟩) := ((hp 12 (by decide)).2 23 rfl).trans (hp 12 (by decide)).1
      have e23_ := e23; rw [Array.getD_eq_getD_getElem?] at e23_
      clear hp hi s1 s2 s3
      refine wpOp_of rfl rfl ?_
      go_simp
      exact hK _ _ rfl (Foot.refl _ _) hS
    · intro a w vs k K hR hp hi hS s1 s2 s3 hK
      have e24 : a.tmps.getD 24 undef = .pointer (some ⟨pb, 3, none⟩) := ((hp 13 (by decide)).2 24 rfl).trans (hp 13 (by decide)).1
      have e24_ := e24; rw [Array.getD_eq_getD_getElem?] at e24_
      clear hp hi s1 s2 s3
      refine wpOp_of rfl rfl ?_
      go_simp
      exact hK _ _ rfl (Foot.refl _ _) hS
    · intro a w vs k K hR hp hi hS s1 s2 s3 hK
      have e25 : a.tmps.getD 25 undef = .pointer (some ⟨pb, 3, none⟩) := ((hp 14 (by decide)).2 25 rfl).trans (hp 14 (by decide)).1
      have e17 : a.tmps.getD 17 undef = .int .i64 (rnum (tl b 0) 2 : Nat) := ((hp 6 (by decide)).2 17 rfl).trans (hp 6 (by decide)).1
      obtain rfl := s1 2 (by decide) rfl
      have e25_ := e25; rw [Array.getD_eq_getD_getElem?] at e25_
      have e17_ := e17; rw [Array.getD_eq_getD_getElem?] at e17_
      clear hp hi s1 s2 s3
      have hfr := PAt.fr hS 3
      have hce := PAt.c3 hS
      refine wpOp_of rfl rfl ?_
      go_simp
      exact hK undef _ trivial (PF.set _ _ _ _ _) (PAt.s3 hS _)
    · intro a w vs k K hR hp hi hS s1 s2 s3 hK
      have e12 : a.tmps.getD 12 undef = .pointer (some ⟨pb, 0, none⟩) := ((hp 1 (by decide)).2 12 rfl).trans (hp 1 (by decide)).1
      have e12_ := e12; rw [Array.getD_eq_getD_getElem?] at e12_
      clear hp hi s1 s2 s3
      refine wpOp_of rfl rfl ?_
      go_simp
      exact hK _ _ rfl (Foot.refl _ _) hS
    · intro a w vs k K hR hp hi hS s1 s2 s3 hK
      have e26 : a.tmps.getD 26 undef = .pointer (some ⟨pb, 0, none⟩) := ((hp 16 (by decide)).2 26 rfl).trans (hp 16 (by decide)).1
      have e26_ := e26; rw [Array.getD_eq_getD_getElem?] at e26_
      clear hp hi s1 s2 s3
      refine wpOp_of rfl rfl ?_
      go_simp
      exact hK _ _ rfl (Foot.refl _ _) hS
    · intro a w vs k K hR hp hi hS s1 s2 s3 hK
      have e27 : a.tmps.getD 27 undef = .pointer (some ⟨pb, 3, none⟩) := ((hp 17 (by decide)).2 27 rfl).trans (hp 17 (by decide)).1
      have e27_ := e27; rw [Array.getD_eq_getD_getElem?] at e27_
      clear hp hi s1 s2 s3
      refine wpOp_of rfl rfl ?_
      go_simp
      exact hK _ _ rfl (Foot.refl _ _) hS
    · intro a w vs k K hR hp hi hS s1 s2 s3 hK
      have e28 : a.tmps.getD 28 undef = .pointer (some ⟨pb, 4, none⟩) := ((hp 18 (by decide)).2 28 rfl).trans (hp 18 (by decide)).1
      have e22 : a.tmps.getD 22 undef = .int .i64 (rnum (tl b 2) 2 : Nat) := ((hp 11 (by decide)).2 22 rfl).trans (hp 11 (by decide)).1
      obtain rfl := s1 3 (by decide) rfl
      have e28_ := e28; rw [Array.getD_eq_getD_getElem?] at e28_
      have e22_ := e22; rw [Array.getD_eq_getD_getElem?] at e22_
      clear hp hi s1 s2 s3
      have hfr := PAt.fr hS 4
      have hce := PAt.c4 hS
      refine wpOp_of rfl rfl ?_
      go_simp
      exact hK undef _ trivial (PF.set _ _ _ _ _) (PAt.s4 hS _)
  case hfin =>
    intro vs w5 hR5 hH hS5
    have q0 : vs 0 = .pointer (some ⟨pb, 0, none⟩) := hH 0 (by decide)
    have q1 : vs 1 = .pointer (some ⟨pb, 0, none⟩) := hH 1 (by decide)
    have q2 : vs 2 = .pointer (some ⟨pb, 0, none⟩) := hH 2 (by decide)
    have q3 : vs 3 = .pointer (some ⟨pb, 0, none⟩) := hH 3 (by decide)
    have q4 : vs 4 = .pointer (some ⟨pb, 0, none⟩) := hH 4 (by decide)
    have q5 : vs 5 = .pointer (some ⟨rb, 0, none⟩) := hH 5 (by decide)
    have q6 : vs 6 = .int .i64 (rnum (tl b 0) 2 : Nat) := hH 6 (by decide)
    have q7 : vs 7 = .pointer (some ⟨pb, 0, none⟩) := hH 7 (by decide)
    have q8 : vs 8 = .pointer (some ⟨pb, 0, none⟩) := hH 8 (by decide)
    have q9 : vs 9 = .pointer (some ⟨pb, 0, none⟩) := hH 9 (by decide)
    have q10 : vs 10 = .pointer (some ⟨rb, 0, none⟩) := hH 10 (by decide)
    have q11 : vs 11 = .int .i64 (rnum (tl b 2) 2 : Nat) := hH 11 (by decide)
    have q12 : vs 12 = .pointer (some ⟨pb, 0, none⟩) := hH 12 (by decide)
    have q13 : vs 13 = .pointer (some ⟨pb, 3, none⟩) := hH 13 (by decide)
    have q14 : vs 14 = .pointer (some ⟨pb, 3, none⟩) := hH 14 (by decide)
    have q16 : vs 16 = .pointer (some ⟨pb, 0, none⟩) := hH 16 (by decide)
    have q17 : vs 17 = .pointer (some ⟨pb, 3, none⟩) := hH 17 (by decide)
    have q18 : vs 18 = .pointer (some ⟨pb, 4, none⟩) := hH 18 (by decide)
    clear hH
    simp only [putL, Act.put, List.setIfInBounds_toArray, List.set_cons_zero, List.set_cons_succ, q0, q1, q2, q3, q4, q5, q6, q7, q8, q9, q10, q11, q12, q13, q14, q16, q17, q18]
    clear q0 q1 q2 q3 q4 q5 q6 q7 q8 q9 q10 q11 q12 q13 q14 q16 q17 q18
    have hst0 := PAt.drew hS5
    have hFa : PF pb rb w _ := (Foot.drew _ _).trans hR5
    clear hc0 hS5 hR5
    go_wp2_with (fail)
    have hc0 : ∀ k w, (St5 (fun w => PAt w pb rb b g { { (⟨0, 0, 0, 0, 0, 0, ⟨#[]⟩⟩ : Seg) with sport := (rnum (tl b 0) 2 : Nat) } with dport := (rnum (tl b 2) 2 : Nat) } (tl b 4)) (fun w => PAt w pb rb b g { { (⟨0, 0, 0, 0, 0, 0, ⟨#[]⟩⟩ : Seg) with sport := (rnum (tl b 0) 2 : Nat) } with dport := (rnum (tl b 2) 2 : Nat) } (tl b 6)) (fun w => PAt w pb rb b g { { (⟨0, 0, 0, 0, 0, 0, ⟨#[]⟩⟩ : Seg) with sport := (rnum (tl b 0) 2 : Nat) } with dport := (rnum (tl b 2) 2 : Nat) } (tl b 8)) (fun w => PAt w pb rb b g { { (⟨0, 0, 0, 0, 0, 0, ⟨#[]⟩⟩ : Seg) with sport := (rnum (tl b 0) 2 : Nat) } with dport := (rnum (tl b 2) 2 : Nat) } (tl b 8)) (fun w => PAt w pb rb b g { { (⟨0, 0, 0, 0, 0, 0, ⟨#[]⟩⟩ : Seg) with sport := (rnum (tl b 0) 2 : Nat) } with dport := (rnum (tl b 2) 2 : Nat) } (tl b 8))) k w → w.cell? ⟨pb, 0, none⟩ = some (.pointer (some ⟨rb, 0, none⟩)) := fun k w h => by rcases k with _ | _ | _ | _ | k <;> exact PAt.c0 h
    refine wp_region_list (by kernel_rfl) [(some 29, []), (some 30, [0]), (some 31, [1]), (some 32, [2]), (some 33, [3]), (some 34, []), (some 35, [5]), (some 36, [6]), (some 37, [7]), (some 38, [8, 4]), (some 3, [4, 9, 0, 1, 2, 3, 4]), (some 4, [9, 10, 0, 1, 2, 3, 4, 5, 6, 7, 8, 9, 10])] [4, 9] 77 12 (PF pb rb) (fun i v w => match i with | 0 => v = .pointer (some ⟨pb, 0, none⟩) | 1 => v = .pointer (some ⟨pb, 0, none⟩) | 2 => v = .pointer (some ⟨pb, 0, none⟩) | 3 => v = .pointer (some ⟨rb, 0, none⟩) | 4 => v = .int .i64 (rnum (tl b 4) 2 : Nat) | 5 => v = .pointer (some ⟨pb, 0, none⟩) | 6 => v = .pointer (some ⟨pb, 0, none⟩) | 7 => v = .pointer (some ⟨pb, 0, none⟩) | 8 => v = .pointer (some ⟨rb, 0, none⟩) | 9 => v = .int .i64 (rnum (tl b 6) 2 : Nat) | 10 => v = .int .i64 (rnum (tl b 4) 2 : Nat) | 11 => v = .int .i64 (rnum (tl b 6) 2 : Nat) | _ => True) (St5 (fun w => PAt w pb rb b g { { (⟨0, 0, 0, 0, 0, 0, ⟨#[]⟩⟩ : Seg) with sport := (rnum (tl b 0) 2 : Nat) } with dport := (rnum (tl b 2) 2 : Nat) } (tl b 4)) (fun w => PAt w pb rb b g { { (⟨0, 0, 0, 0, 0, 0, ⟨#[]⟩⟩ : Seg) with sport := (rnum (tl b 0) 2 : Nat) } with dport := (rnum (tl b 2) 2 : Nat) } (tl b 6)) (fun w => PAt w pb rb b g { { (⟨0, 0, 0, 0, 0, 0, ⟨#[]⟩⟩ : Seg) with sport := (rnum (tl b 0) 2 : Nat) } with dport := (rnum (tl b 2) 2 : Nat) } (tl b 8)) (fun w => PAt w pb rb b g { { (⟨0, 0, 0, 0, 0, 0, ⟨#[]⟩⟩ : Seg) with sport := (rnum (tl b 0) 2 : Nat) } with dport := (rnum (tl b 2) 2 : Nat) } (tl b 8)) (fun w => PAt w pb rb b g { { (⟨0, 0, 0, 0, 0, 0, ⟨#[]⟩⟩ : Seg) with sport := (rnum (tl b 0) 2 : Nat) } with dport := (rnum (tl b 2) 2 : Nat) } (tl b 8))) (by kernel_rfl) rfl rfl (by kernel_rfl) (Foot.refl _) (fun _ _ _ => Foot.trans) ?Hst ?hst ?howed ?hfin
    case Hst =>
      intro i v w w2 _ hH _
      rcases i with _ | _ | _ | _ | _ | _ | _ | _ | _ | _ | _ | _ | _ <;> exact hH
    case hst =>
      exact hst0
    case howed =>
      refine owed_cons (owed_cons (owed_cons (owed_cons (owed_cons (owed_cons (owed_cons (owed_cons (owed_cons (owed_cons (owed_cons (owed_cons (owed_nil _) ?_) ?_) ?_) ?_) ?_) ?_) ?_) ?_) ?_) ?_) ?_) ?_
      · intro a w vs k K hR hp hi hS s1 s2 s3 hK
        have e0 : a.tmps.getD 0 undef = .pointer (some ⟨pb, 0, none⟩) := old_of hi (by kernel_rfl) rfl
        have e0_ := e0; rw [Array.getD_eq_getD_getElem?] at e0_
        clear hp hi s1 s2 s3
        refine wpOp_of rfl rfl ?_
        go_simp
        exact hK _ _ rfl (Foot.refl _ _) hS
      · intro a w vs k K hR hp hi hS s1 s2 s3 hK
        have e29 : a.tmps.getD 29 undef = .pointer (some ⟨pb, 0, none⟩) := ((hp 0 (by decide)).2 29 rfl).trans (hp 0 (by decide)).1
        have e29_ := e29; rw [Array.getD_eq_getD_getElem?] at e29_
        clear hp hi s1 s2 s3
        refine wpOp_of rfl rfl ?_
        go_simp
        exact hK _ _ rfl (Foot.refl _ _) hS
      · intro a w vs k K hR hp hi hS s1 s2 s3 hK
        have e30 : a.tmps.getD 30 undef = .pointer (some ⟨pb, 0, none⟩) := ((hp 1 (by decide)).2 30 rfl).trans (hp 1 (by decide)).1
        have e30_ := e30; rw [Array.getD_eq_getD_getElem?] at e30_
        clear hp hi s1 s2 s3
        refine wpOp_of rfl rfl ?_
        go_simp
        exact hK _ _ rfl (Foot.refl _ _) hS
      · intro a w vs k K hR hp hi hS s1 s2 s3 hK
        have e31 : a.tmps.getD 31 undef = .pointer (some ⟨pb, 0, none⟩) := ((hp 2 (by decide)).2 31 rfl).trans (hp 2 (by decide)).1
        have e31_ := e31; rw [Array.getD_eq_getD_getElem?] at e31_
        clear hp hi s1 s2 s3
        have hc := (hc0 k w hS)
        refine wpOp_of rfl rfl ?_
        go_simp
        exact hK _ _ rfl (Foot.refl _ _) hS
      · intro a w vs k K hR hp hi hS s1 s2 s3 hK
        have e32 : a.tmps.getD 32 undef = .pointer (some ⟨rb, 0, none⟩) := ((hp 3 (by decide)).2 32 rfl).trans (hp 3 (by decide)).1
        obtain rfl := s1 0 (by decide) rfl
        have e32_ := e32; rw [Array.getD_eq_getD_getElem?] at e32_
        clear hp hi s1 s2 s3
        refine wpOp_of rfl rfl ?_
        go_simp
        refine (short_at rb b 4 w (PAt.rdr hS) (by omega) hmax).mono ?_
        rintro e w1 ⟨rfl, hr1, hf1⟩
        exact hK _ _ rfl (PF.rd hf1) (PAt.read hS hr1 hf1)
      · intro a w vs k K hR hp hi hS s1 s2 s3 hK
        have e0 : a.tmps.getD 0 undef = .pointer (some ⟨pb, 0, none⟩) := old_of hi (by kernel_rfl) rfl
        have e0_ := e0; rw [Array.getD_eq_getD_getElem?] at e0_
        clear hp hi s1 s2 s3
        refine wpOp_of rfl rfl ?_
        go_simp
        exact hK _ _ rfl (Foot.refl _ _) hS
      · intro a w vs k K hR hp hi hS s1 s2 s3 hK
        have e34 : a.tmps.getD 34 undef = .pointer (some ⟨pb, 0, none⟩) := ((hp 5 (by decide)).2 34 rfl).trans (hp 5 (by decide)).1
        have e34_ := e34; rw [Array.getD_eq_getD_getElem?] at e34_
        clear hp hi s1 s2 s3
        refine wpOp_of rfl rfl ?_
        go_simp
        exact hK _ _ rfl (Foot.refl _ _) hS
      · intro a w vs k K hR hp hi hS s1 s2 s3 hK
        have e35 : a.tmps.getD 35 undef = .pointer (some ⟨pb, 0, none⟩) := ((hp 6 (by decide)).2 35 rfl).trans (hp 6 (by decide)).1
        have e35_ := e35; rw [Array.getD_eq_getD_getElem?] at e35_
        clear hp hi s1 s2 s3
        refine wpOp_of rfl rfl ?_
        go_simp
        exact hK _ _ rfl (Foot.refl _ _) hS
      · intro a w vs k K hR hp hi hS s1 s2 s3 hK
        have e36 : a.tmps.getD 36 undef = .pointer (some ⟨pb, 0, none⟩) := ((hp 7 (by decide)).2 36 rfl).trans (hp 7 (by decide)).1
        have e36_ := e36; rw [Array.getD_eq_getD_getElem?] at e36_
        clear hp hi s1 s2 s3
        have hc := (hc0 k w hS)
        refine wpOp_of rfl rfl ?_
        go_simp
        exact hK _ _ rfl (Foot.refl _ _) hS
      · intro a w vs k K hR hp hi hS s1 s2 s3 hK
        have e37 : a.tmps.getD 37 undef = .pointer (some ⟨rb, 0, none⟩) := ((hp 8 (by decide)).2 37 rfl).trans (hp 8 (by decide)).1
        obtain rfl := s1 1 (by decide) rfl
        have e37_ := e37; rw [Array.getD_eq_getD_getElem?] at e37_
        clear hp hi s1 s2 s3
        refine wpOp_of rfl rfl ?_
        go_simp
        refine (short_at rb b 6 w (PAt.rdr hS) (by omega) hmax).mono ?_
        rintro e w1 ⟨rfl, hr1, hf1⟩
        exact hK _ _ rfl (PF.rd hf1) (PAt.read hS hr1 hf1)
      · intro a w vs k K hR hp hi hS s1 s2 s3 hK
        have e33 : a.tmps.getD 33 undef = .int .i64 (rnum (tl b 4) 2 : Nat) := ((hp 4 (by decide)).2 33 rfl).trans (hp 4 (by decide)).1
        have e33_ := e33; rw [Array.getD_eq_getD_getElem?] at e33_
        clear hp hi s1 s2 s3
        refine wpOp_of rfl rfl ?_
        go_simp
        exact hK _ _ rfl (Foot.refl _ _) hS
      · intro a w vs k K hR hp hi hS s1 s2 s3 hK
        have e38 : a.tmps.getD 38 undef = .int .i64 (rnum (tl b 6) 2 : Nat) := ((hp 9 (by decide)).2 38 rfl).trans (hp 9 (by decide)).1
        have e38_ := e38; rw [Array.getD_eq_getD_getElem?] at e38_
        clear hp hi s1 s2 s3
        refine wpOp_of rfl rfl ?_
        go_simp
        exact hK _ _ rfl (Foot.refl _ _) hS
    case hfin =>
      intro vs w5 hR5 hH hS5
      have q0 : vs 0 = .pointer (some ⟨pb, 0, none⟩) := hH 0 (by decide)
      have q1 : vs 1 = .pointer (some ⟨pb, 0, none⟩) := hH 1 (by decide)
      have q2 : vs 2 = .pointer (some ⟨pb, 0, none⟩) := hH 2 (by decide)
      have q3 : vs 3 = .pointer (some ⟨rb, 0, none⟩) := hH 3 (by decide)
      have q4 : vs 4 = .int .i64 (rnum (tl b 4) 2 : Nat) := hH 4 (by decide)
      have q5 : vs 5 = .pointer (some ⟨pb, 0, none⟩) := hH 5 (by decide)
      have q6 : vs 6 = .pointer (some ⟨pb, 0, none⟩) := hH 6 (by decide)
      have q7 : vs 7 = .pointer (some ⟨pb, 0, none⟩) := hH 7 (by decide)
      have q8 : vs 8 = .pointer (some ⟨rb, 0, none⟩) := hH 8 (by decide)
      have q9 : vs 9 = .int .i64 (rnum (tl b 6) 2 : Nat) := hH 9 (by decide)
      have q10 : vs 10 = .int .i64 (rnum (tl b 4) 2 : Nat) := hH 10 (by decide)
      have q11 : vs 11 = .int .i64 (rnum (tl b 6) 2 : Nat) := hH 11 (by decide)
      clear hH
      simp only [putL, Act.put, List.setIfInBounds_toArray, List.set_cons_zero, List.set_cons_succ, q0, q1, q2, q3, q4, q5, q6, q7, q8, q9, q10, q11]
      clear q0 q1 q2 q3 q4 q5 q6 q7 q8 q9 q10 q11
      have hP := (show PAt w5 pb rb b g _ (tl b 8) from hS5)
      have hFb : PF pb rb w w5 := hFa.trans ((Foot.drew _ _).trans hR5)
      clear hc0 hS5 hR5 hFa hst0
      have hcd : Hid (udpCode b g = if rnum (tl b 4) 2 < 8 then 3 else if b.size < rnum (tl b 4) 2 then 2 else if rnum (tl b 4) 2 < b.size then 5 else if rnum (tl b 6) 2 = 0 then 0 else if g then 0 else 4) := by
        show _ = _; unfold udpCode; rw [if_neg (by omega)]
      generalize rnum (tl b 4) 2 = sz at *
      generalize rnum (tl b 6) 2 = n at *
      have c0 := hP.c0
      have c1 := hP.c1
      have c2 := hP.c2
      have HP := Lib.hid hP; clear hP
      have HB := Lib.hid hb; clear hb
      by_cases h5 : sz < 8
      · go_wp2
        go_ret
        have hc := hcd.out
        rw [if_pos h5] at hc
        exact ⟨by rw [hc]; rfl, hFb, fun h => by rw [hc] at h; exact absurd h (by decide)⟩
      · by_cases hl : b.size < sz
        · have hl1 : decide (b.size < sz) = true := by simp [hl]
          go_wp2
          go_ret
          have hc := hcd.out
          rw [if_neg h5, if_pos hl] at hc
          exact ⟨by rw [hc]; rfl, hFb, fun h => by rw [hc] at h; exact absurd h (by decide)⟩
        · have hl1 : decide (b.size < sz) = false := by simp [hl]
          by_cases hg : sz < b.size
          · have hg1 : decide (sz < b.size) = true := by simp [hg]
            go_wp2
            go_ret
            have hc := hcd.out
            rw [if_neg h5, if_neg hl, if_pos hg] at hc
            exact ⟨by rw [hc]; rfl, hFb, fun h => by rw [hc] at h; exact absurd h (by decide)⟩
          · have hg1 : decide (sz < b.size) = false := by simp [hg]
            by_cases hn : n = 0 ∨ g = true
            · have hc := hcd.out
              rw [if_neg h5, if_neg hl, if_neg hg] at hc
              have hc0 : udpCode b g = 0 := by rcases hn with hn | hn <;> simp_all
              have HC0 := Lib.hid hc0; clear hc0 hc
              have hn3 : n = 0 ∨ (g = true ∧ ((n : Int) == 0) = false ∧ ((n : Int) != 0) = true) := by
                by_cases h0 : n = 0
                · exact .inl h0
                · refine .inr ⟨hn.resolve_left h0, by simp; omega, by rw [bne_iff_ne]; omega⟩
              clear hn
              rcases hn3 with hn | ⟨hn, hn1, hn2⟩
              all_goals
                subst hn
                go_wp2_with (fail)
                refine (rest_any rb (tl b 8) _ HP.out.rdr (by rw [tl_size]; omega)).mono ?_
                rintro e w13 ⟨rfl, hr13, hf13⟩
                have hP13 := HP.out.read hr13 hf13
                have hF13 := hFb.trans (PF.rd hf13)
                clear hFb hf13 hr13 HP c0 c1 c2
                have c9 := hP13.c9
                have f9 := hP13.fr 9
                have HP13 := Lib.hid hP13; clear hP13
                go_wp2
                go_ret
                exact ⟨by rw [HC0.out]; rfl, hF13.trans (PF.set _ _ _ _ _), fun _ => ⟨ByteArray.empty, HP13.out.s9 _⟩⟩
            · have hn0 : n ≠ 0 := fun e => hn (.inl e)
              have hn1 : ((n : Int) == 0) = false := by simp; omega
              have hn2 : ((n : Int) != 0) = true := by rw [bne_iff_ne]; omega
              obtain rfl : g = false := by cases g; rfl; exact absurd (.inr rfl) hn
              have hc := hcd.out
              rw [if_neg h5, if_neg hl, if_neg hg, if_neg hn0] at hc
              simp only [Bool.false_eq_true, if_false] at hc
              have HC := Lib.hid hc; clear hc hn
              go_wp2
              go_ret
              exact ⟨by rw [HC.out]; rfl, hFb, fun h => by rw [HC.out] at h; exact absurd h (by decide)⟩

end Go.Proofs.Ytcmgfmpmapnckaa
