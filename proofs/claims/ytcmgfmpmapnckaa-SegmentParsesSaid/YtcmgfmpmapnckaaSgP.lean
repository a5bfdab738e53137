/- Walks of segment's parser. Written by wip/regpar.py. -/
import Derived.Test.YtcmgfmpmapnckaaSgE
namespace Go.Proofs.Ytcmgfmpmapnckaa
open Go.RowKit
set_option linter.unusedVariables false
set_option linter.unusedSimpArgs false

theorem tl_tl (b : ByteArray) (i j : Nat) : tl (tl b i) j = tl b (i + j) := by
  unfold tl
  apply ByteArray.ext
  simp only [ByteArray.data_extract, ByteArray.size_extract, Array.extract_extract]
  congr 1
  omega
theorem tl_zero (b : ByteArray) : tl b 0 = b := by
  unfold tl; simp

theorem short_at (rb : Nat) (b : ByteArray) (i : Nat) (w : World) (h : RdAt w rb false (tl b i)) (hn : i + 2 ≤ b.size) (hs : b.size ≤ maxLen) :
    Calls Try.prog 57 #[.pointer (some ⟨rb, 0, none⟩)] w fun e w' => e = .returned (.int .i64 (rnum (tl b i) 2 : Nat)) ∧ RdAt w' rb false (tl b (i + 2)) ∧ Foot (· = rb) w w' := by
  have := short_any rb (tl b i) w h (by rw [tl_size]; omega) (by rw [tl_size]; omega)
  rwa [tl_tl] at this
theorem word_at (rb : Nat) (b : ByteArray) (i : Nat) (w : World) (h : RdAt w rb false (tl b i)) (hn : i + 4 ≤ b.size) (hs : b.size ≤ maxLen) :
    Calls Try.prog 92 #[.pointer (some ⟨rb, 0, none⟩)] w fun e w' => e = .returned (.int .u32 (rnum (tl b i) 4 : Nat)) ∧ RdAt w' rb false (tl b (i + 4)) ∧ Foot (· = rb) w w' := by
  have := word_any rb (tl b i) w h (by rw [tl_size]; omega) (by rw [tl_size]; omega)
  rwa [tl_tl] at this
theorem byte_at (rb : Nat) (b : ByteArray) (i : Nat) (w : World) (h : RdAt w rb false (tl b i)) (hn : i + 1 ≤ b.size) (hs : b.size ≤ maxLen) :
    Calls Try.prog 93 #[.pointer (some ⟨rb, 0, none⟩)] w fun e w' => e = .returned (.int .i64 (rnum (tl b i) 1 : Nat)) ∧ RdAt w' rb false (tl b (i + 1)) ∧ Foot (· = rb) w w' := by
  have := byte_any rb (tl b i) w h (by rw [tl_size]; omega) (by rw [tl_size]; omega)
  rwa [tl_tl] at this
theorem take_at (rb : Nat) (b : ByteArray) (i : Nat) (z : Int) (n : Nat) (w : World) (hz : z = n) (h : RdAt w rb false (tl b i)) (hn : i + n ≤ b.size) (hs : b.size ≤ maxLen) :
    Calls Try.prog 94 #[.pointer (some ⟨rb, 0, none⟩), .int .i64 z] w fun e w' => (∃ s, e = .returned (.string s)) ∧ RdAt w' rb false (tl b (i + n)) ∧ Foot (· = rb) w w' := by
  refine (take_any rb (tl b i) z n w hz h (by rw [tl_size]; omega) (by rw [tl_size]; omega)).mono ?_
  rintro e w' ⟨rfl, h1, h2⟩
  exact ⟨⟨_, rfl⟩, by rw [← tl_tl]; exact h1, h2⟩

/-- A parser, and its Reader. -/
def PAt (w : World) (pb rb : Nat) (b : ByteArray) (g : Bool) (s : Seg) (rest : ByteArray) : Prop :=
  w.heap[pb]? = some (.cells #[.pointer (some ⟨rb, 0, none⟩), .string b, .bool g, .int .i64 s.sport, .int .i64 s.dport, .int .u32 s.seq, .int .u32 s.ack, .int .i64 s.flags, .int .i64 s.window, .string s.data] 113 (0, 0)) ∧
  RdAt w rb false rest ∧ pb ≠ rb

/-- The state behind so many operations. -/
def St5 (p0 p1 p2 p3 p4 : World → Prop) (k : Nat) (w : World) : Prop := match k with | 0 => p0 w | 1 => p1 w | 2 => p2 w | 3 => p3 w | _ => p4 w

abbrev PF (pb rb : Nat) : World → World → Prop := Foot (fun k => k = pb ∨ k = rb)

section
variable {w : World} {pb rb : Nat} {b : ByteArray} {g : Bool} {s : Seg} {rest : ByteArray}
theorem PAt.c0 (h : PAt w pb rb b g s rest) : w.cell? ⟨pb, 0, none⟩ = some (.pointer (some ⟨rb, 0, none⟩)) := (blk_cell h.1 0).trans rfl
theorem PAt.c1 (h : PAt w pb rb b g s rest) : w.cell? ⟨pb, 1, none⟩ = some (.string b) := (blk_cell h.1 1).trans rfl
theorem PAt.c2 (h : PAt w pb rb b g s rest) : w.cell? ⟨pb, 2, none⟩ = some (.bool g) := (blk_cell h.1 2).trans rfl
theorem PAt.fr (h : PAt w pb rb b g s rest) (i : Nat) : w.frozen? ⟨pb, i, none⟩ = false := blk_free h.1 i
theorem PAt.c3 (h : PAt w pb rb b g s rest) : w.cell? ⟨pb, 3, none⟩ = some (.int .i64 s.sport) := (blk_cell h.1 3).trans rfl
theorem PAt.c4 (h : PAt w pb rb b g s rest) : w.cell? ⟨pb, 4, none⟩ = some (.int .i64 s.dport) := (blk_cell h.1 4).trans rfl
theorem PAt.c5 (h : PAt w pb rb b g s rest) : w.cell? ⟨pb, 5, none⟩ = some (.int .u32 s.seq) := (blk_cell h.1 5).trans rfl
theorem PAt.c6 (h : PAt w pb rb b g s rest) : w.cell? ⟨pb, 6, none⟩ = some (.int .u32 s.ack) := (blk_cell h.1 6).trans rfl
theorem PAt.c7 (h : PAt w pb rb b g s rest) : w.cell? ⟨pb, 7, none⟩ = some (.int .i64 s.flags) := (blk_cell h.1 7).trans rfl
theorem PAt.c8 (h : PAt w pb rb b g s rest) : w.cell? ⟨pb, 8, none⟩ = some (.int .i64 s.window) := (blk_cell h.1 8).trans rfl
theorem PAt.c9 (h : PAt w pb rb b g s rest) : w.cell? ⟨pb, 9, none⟩ = some (.string s.data) := (blk_cell h.1 9).trans rfl
/-- The Reader has gone on. -/
theorem PAt.read {w' : World} {r : ByteArray} (h : PAt w pb rb b g s rest) (hr : RdAt w' rb false r) (hf : Foot (· = rb) w w') : PAt w' pb rb b g s r :=
  ⟨hf.keep h.1 h.2.2, hr, h.2.2⟩
theorem PAt.rd_set (h : PAt w pb rb b g s rest) (i : Nat) (v : Value) : RdAt (w.setCell ⟨pb, i, none⟩ v) rb false rest := blk_set_ne h.2.1 _ (Ne.symm h.2.2)
theorem PAt.s3 (h : PAt w pb rb b g s rest) (n : Int) : PAt (w.setCell ⟨pb, 3, none⟩ (.int .i64 n)) pb rb b g { s with sport := n } rest := ⟨(blk_set h.1 3 _).trans rfl, h.rd_set _ _, h.2.2⟩
theorem PAt.s4 (h : PAt w pb rb b g s rest) (n : Int) : PAt (w.setCell ⟨pb, 4, none⟩ (.int .i64 n)) pb rb b g { s with dport := n } rest := ⟨(blk_set h.1 4 _).trans rfl, h.rd_set _ _, h.2.2⟩
theorem PAt.s5 (h : PAt w pb rb b g s rest) (n : Int) : PAt (w.setCell ⟨pb, 5, none⟩ (.int .u32 n)) pb rb b g { s with seq := n } rest := ⟨(blk_set h.1 5 _).trans rfl, h.rd_set _ _, h.2.2⟩
theorem PAt.s6 (h : PAt w pb rb b g s rest) (n : Int) : PAt (w.setCell ⟨pb, 6, none⟩ (.int .u32 n)) pb rb b g { s with ack := n } rest := ⟨(blk_set h.1 6 _).trans rfl, h.rd_set _ _, h.2.2⟩
theorem PAt.s7 (h : PAt w pb rb b g s rest) (n : Int) : PAt (w.setCell ⟨pb, 7, none⟩ (.int .i64 n)) pb rb b g { s with flags := n } rest := ⟨(blk_set h.1 7 _).trans rfl, h.rd_set _ _, h.2.2⟩
theorem PAt.s8 (h : PAt w pb rb b g s rest) (n : Int) : PAt (w.setCell ⟨pb, 8, none⟩ (.int .i64 n)) pb rb b g { s with window := n } rest := ⟨(blk_set h.1 8 _).trans rfl, h.rd_set _ _, h.2.2⟩
theorem PAt.s9 (h : PAt w pb rb b g s rest) (d : ByteArray) : PAt (w.setCell ⟨pb, 9, none⟩ (.string d)) pb rb b g { s with data := d } rest := ⟨(blk_set h.1 9 _).trans rfl, h.rd_set _ _, h.2.2⟩
theorem PAt.rdr (h : PAt w pb rb b g s rest) : RdAt w rb false rest := h.2.1
theorem PAt.drew (h : PAt w pb rb b g s rest) : PAt w.drew pb rb b g s rest := h
theorem PF.set (w : World) (pb rb i : Nat) (v : Value) : PF pb rb w (w.setCell ⟨pb, i, none⟩ v) := Foot.setCell _ _ _ (.inl rfl)
theorem PF.rd {w w' : World} {pb rb : Nat} (h : Foot (· = rb) w w') : PF pb rb w w' := h.mono fun _ _ e => .inr e
end

/-- What parser.tcp answers, and what it has read. -/
def tcpCode (b : ByteArray) (g : Bool) : Nat :=
  if b.size < 20 then 2 else if rnum (tl b 12) 1 / 16 < 5 then 3 else if b.size < rnum (tl b 12) 1 / 16 * 4 then 2 else if g then 0 else 4
def tcpSeg (b : ByteArray) : Seg :=
  ⟨(rnum (tl b 0) 2 : Nat), (rnum (tl b 2) 2 : Nat), (rnum (tl b 4) 4 : Nat), (rnum (tl b 8) 4 : Nat), (rnum (tl b 13) 1 % 64 : Nat), (rnum (tl b 14) 2 : Nat), tl b (rnum (tl b 12) 1 / 16 * 4)⟩
def TcpPost (pb rb : Nat) (b : ByteArray) (g : Bool) (w : World) (e : Ending) (w' : World) : Prop :=
  e = .returned (.int .i64 (tcpCode b g : Nat)) ∧ Foot (fun k => k = pb ∨ k = rb) w w' ∧ (tcpCode b g = 0 → ∃ r, PAt w' pb rb b g (tcpSeg b) r)

set_option maxHeartbeats 4000000 in
set_option maxRecDepth 100000 in
theorem parTcp_short (pb rb : Nat) (b : ByteArray) (g : Bool) (w : World) (h : PAt w pb rb b g ⟨0, 0, 0, 0, 0, 0, ⟨#[]⟩⟩ (tl b 0)) (hb : b.size < 20) :
    Calls Try.prog 50 #[.pointer (some ⟨pb, 0, none⟩)] w (TcpPost pb rb b g w) := by
  have c1 := h.c1
  have hcode : tcpCode b g = 2 := by unfold tcpCode; rw [if_pos hb]
  have HC := Lib.hid hcode; clear hcode
  have H := Lib.hid h; clear h
  go_enter Try.func50, Try.ntmps50
  go_wp2
  go_ret
  exact ⟨by rw [HC.out]; rfl, Foot.refl _ _, fun h => by rw [HC.out] at h; exact absurd h (by decide)⟩

set_option maxHeartbeats 8000000 in
set_option maxRecDepth 100000 in
theorem parTcp_any (pb rb : Nat) (b : ByteArray) (g : Bool) (w : World) (h : PAt w pb rb b g ⟨0, 0, 0, 0, 0, 0, ⟨#[]⟩⟩ (tl b 0)) (hb : 20 ≤ b.size) (hmax : b.size ≤ maxLen) :
    Calls Try.prog 50 #[.pointer (some ⟨pb, 0, none⟩)] w (TcpPost pb rb b g w) := by
  have c1 := h.c1
  have hst0 := h.drew
  have H := Lib.hid h; clear h
  go_enter Try.func50, Try.ntmps50
  go_wp2
  clear c1
  have hc0 : ∀ k w, (St5 (fun w => PAt w pb rb b g (⟨0, 0, 0, 0, 0, 0, ⟨#[]⟩⟩ : Seg) (tl b 0)) (fun w => PAt w pb rb b g (⟨0, 0, 0, 0, 0, 0, ⟨#[]⟩⟩ : Seg) (tl b 2)) (fun w => PAt w pb rb b g (⟨0, 0, 0, 0, 0, 0, ⟨#[]⟩⟩ : Seg) (tl b 4)) (fun w => PAt w pb rb b g { (⟨0, 0, 0, 0, 0, 0, ⟨#[]⟩⟩ : Seg) with sport := (rnum (tl b 0) 2 : Nat) } (tl b 4)) (fun w => PAt w pb rb b g { { (⟨0, 0, 0, 0, 0, 0, ⟨#[]⟩⟩ : Seg) with sport := (rnum (tl b 0) 2 : Nat) } with dport := (rnum (tl b 2) 2 : Nat) } (tl b 4))) k w → w.cell? ⟨pb, 0, none⟩ = some (.pointer (some ⟨rb, 0, none⟩)) := fun k w h => by rcases k with _ | _ | _ | _ | k <;> exact PAt.c0 h
  refine wp_region_list (by kernel_rfl) [(some 10, []), (some 11, []), (some 12, []), (some 13, [2]), (some 14, [3]), (some 15, [4]), (some 16, [5]), (some 17, []), (some 18, [7]), (some 19, [8]), (some 20, [9]), (some 21, [10, 6]), (some 22, [0, 0, 2, 3, 4, 5, 6, 10, 11]), (some 23, [12, 0, 2, 3, 4, 5, 6, 10, 11]), (some 24, [13, 0, 2, 3, 4, 5, 6, 10, 11]), (none, [14, 6, 11, 0, 2, 3, 4, 5, 6, 10, 11]), (some 25, [1, 0, 1, 2, 3, 4, 5, 6, 7, 8, 9, 10, 11, 12, 13, 14, 15]), (some 26, [16, 0, 1, 2, 3, 4, 5, 6, 7, 8, 9, 10, 11, 12, 13, 14, 15]), (some 27, [17, 0, 1, 2, 3, 4, 5, 6, 7, 8, 9, 10, 11, 12, 13, 14, 15]), (none, [18, 11, 15, 0, 1, 2, 3, 4, 5, 6, 7, 8, 9, 10, 11, 12, 13, 14, 15])] [6, 11, 15, 19] 111 20 (PF pb rb) (fun i v w => match i with | 0 => v = .pointer (some ⟨pb, 0, none⟩) | 1 => v = .pointer (some ⟨pb, 0, none⟩) | 2 => v = .pointer (some ⟨pb, 0, none⟩) | 3 => v = .pointer (some ⟨pb, 0, none⟩) | 4 => v = .pointer (some ⟨pb, 0, none⟩) | 5 => v = .pointer (some ⟨rb, 0, none⟩) | 6 => v = .int .i64 (rnum (tl b 0) 2 : Nat) | 7 => v = .pointer (some ⟨pb, 0, none⟩) | 8 => v = .pointer (some ⟨pb, 0, none⟩) | 9 => v = .pointer (some ⟨pb, 0, none⟩) | 10 => v = .pointer (some ⟨rb, 0, none⟩) | 11 => v = .int .i64 (rnum (tl b 2) 2 : Nat) | 12 => v = .pointer (some ⟨pb, 0, none⟩) | 13 => v = .pointer (some ⟨pb, 3, none⟩) | 14 => v = .pointer (some ⟨pb, 3, none⟩) | 15 => True | 16 => v = .pointer (some ⟨pb, 0, none⟩) | 17 => v = .pointer (some ⟨pb, 3, none⟩) | 18 => v = .pointer (some ⟨pb, 4, none⟩) | 19 => True | _ => True) (St5 (fun w => PAt w pb rb b g (⟨0, 0, 0, 0, 0, 0, ⟨#[]⟩⟩ : Seg) (tl b 0)) (fun w => PAt w pb rb b g (⟨0, 0, 0, 0, 0, 0, ⟨#[]⟩⟩ : Seg) (tl b 2)) (fun w => PAt w pb rb b g (⟨0, 0, 0, 0, 0, 0, ⟨#[]⟩⟩ : Seg) (tl b 4)) (fun w => PAt w pb rb b g { (⟨0, 0, 0, 0, 0, 0, ⟨#[]⟩⟩ : Seg) with sport := (rnum (tl b 0) 2 : Nat) } (tl b 4)) (fun w => PAt w pb rb b g { { (⟨0, 0, 0, 0, 0, 0, ⟨#[]⟩⟩ : Seg) with sport := (rnum (tl b 0) 2 : Nat) } with dport := (rnum (tl b 2) 2 : Nat) } (tl b 4))) (by kernel_rfl) rfl rfl (by kernel_rfl) (Foot.refl _) (fun _ _ _ => Foot.trans) ?Hst ?hst ?howed ?hfin
  case Hst =>
    intro i v w w2 _ hH _
    rcases i with _ | _ | _ | _ | _ | _ | _ | _ | _ | _ | _ | _ | _ | _ | _ | _ | _ | _ | _ | _ | _ <;> exact hH
  case hst =>
    exact hst0
  case howed =>
    refine owed_cons (owed_cons (owed_cons (owed_cons (owed_cons (owed_cons (owed_cons (owed_cons (owed_cons (owed_cons (owed_cons (owed_cons (owed_cons (owed_cons (owed_cons (owed_cons (owed_cons (owed_cons (owed_cons (owed_cons (owed_nil _) ?_) ?_) ?_) ?_) ?_) ?_) ?_) ?_) ?_) ?_) ?_) ?_) ?_) ?_) ?_) ?_) ?_) ?_) ?_) ?_
    · intro a w vs k K hR hp hi hS s1 s2 s3 hK
      have e0 : a.tmps.getD 0 undef = .pointer (some ⟨pb, 0, none⟩) := old_of hi (by kernel_rfl) rfl
      have e0_ := e0; rw [Array.getD_eq_getD_getElem?] at e0_
      clear hp hi s1 s2 s3
      refine wpOp_of rfl rfl ?_
      go_simp
      exact hK _ _ rfl (Foot.refl _ _) hS
    · intro a w vs k K hR hp hi hS s1 s2 s3 hK
      have e0 : a.tmps.getD 0 undef = .pointer (some ⟨pb, 0, none⟩) := old_of hi (by kernel_rfl) rfl
      have e0_ := e0; rw [Array.getD_eq_getD_getElem?] at e0_
      clear hp hi s1 s2 s3
      refine wpOp_of rfl rfl ?_
      go_simp
      exact hK _ _ rfl (Foot.refl _ _) hS
    · intro a w vs k K hR hp hi hS s1 s2 s3 hK
      have e0 : a.tmps.getD 0 undef = .pointer (some ⟨pb, 0, none⟩) := old_of hi (by kernel_rfl) rfl
      have e0_ := e0; rw [Array.getD_eq_getD_getElem?] at e0_
      clear hp hi s1 s2 s3
      refine wpOp_of rfl rfl ?_
      go_simp
      exact hK _ _ rfl (Foot.refl _ _) hS
    · intro a w vs k K hR hp hi hS s1 s2 s3 hK
      have e12 : a.tmps.getD 12 undef = .pointer (some ⟨pb, 0, none⟩) := ((hp 2 (by decide)).2 12 rfl).trans (hp 2 (by decide)).1
      have e12_ := e12; rw [Array.getD_eq_getD_getElem?] at e12_
      clear hp hi s1 s2 s3
      refine wpOp_of rfl rfl ?_
      go_simp
      exact hK _ _ rfl (Foot.refl _ _) hS
    · intro a w vs k K hR hp hi hS s1 s2 s3 hK
      have e13 : a.tmps.getD 13 undef = .pointer (some ⟨pb, 0, none⟩) := ((hp 3 (by decide)).2 13 rfl).trans (hp 3 (by decide)).1
      have e13_ := e13; rw [Array.getD_eq_getD_getElem?] at e13_
      clear hp hi s1 s2 s3
      refine wpOp_of rfl rfl ?_
      go_simp
      exact hK _ _ rfl (Foot.refl _ _) hS
    · intro a w vs k K hR hp hi hS s1 s2 s3 hK
      have e14 : a.tmps.getD 14 undef = .pointer (some ⟨pb, 0, none⟩) := ((hp 4 (by decide)).2 14 rfl).trans (hp 4 (by decide)).1
      have e14_ := e14; rw [Array.getD_eq_getD_getElem?] at e14_
      clear hp hi s1 s2 s3
      have hc := (hc0 k w hS)
      refine wpOp_of rfl rfl ?_
      go_simp
      exact hK _ _ rfl (Foot.refl _ _) hS
    · intro a w vs k K hR hp hi hS s1 s2 s3 hK
      have e15 : a.tmps.getD 15 undef = .pointer (some ⟨rb, 0, none⟩) := ((hp 5 (by decide)).2 15 rfl).trans (hp 5 (by decide)).1
      obtain rfl := s1 0 (by decide) rfl
      have e15_ := e15; rw [Array.getD_eq_getD_getElem?] at e15_
      clear hp hi s1 s2 s3
      refine wpOp_of rfl rfl ?_
      go_simp
      refine (short_at rb b 0 w (PAt.rdr hS) (by omega) hmax).mono ?_
      rintro e w1 ⟨rfl, hr1, hf1⟩
      exact hK _ _ rfl (PF.rd hf1) (PAt.read hS hr1 hf1)
    · intro a w vs k K hR hp hi hS s1 s2 s3 hK
      have e0 : a.tmps.getD 0 undef = .pointer (some ⟨pb, 0, none⟩) := old_of hi (by kernel_rfl) rfl
      have e0_ := e0; rw [Array.getD_eq_getD_getElem?] at e0_
      clear hp hi s1 s2 s3
      refine wpOp_of rfl rfl ?_
      go_simp
      exact hK _ _ rfl (Foot.refl _ _) hS
    · intro a w vs k K hR hp hi hS s1 s2 s3 hK
      have e17 : a.tmps.getD 17 undef = .pointer (some ⟨pb, 0, none⟩) := ((hp 7 (by decide)).2 17 rfl).trans (hp 7 (by decide)).1
      have e17_ := e17; rw [Array.getD_eq_getD_getElem?] at e17_
      clear hp hi s1 s2 s3
      refine wpOp_of rfl rfl ?_
      go_simp
      exact hK _ _ rfl (Foot.refl _ _) hS
    · intro a w vs k K hR hp hi hS s1 s2 s3 hK
      have e18 : a.tmps.getD 18 undef = .pointer (some ⟨pb, 0, none⟩) := ((hp 8 (by decide)).2 18 rfl).trans (hp 8 (by decide)).1
      have e18_ := e18; rw [Array.getD_eq_getD_getElem?] at e18_
      clear hp hi s1 s2 s3
      refine wpOp_of rfl rfl ?_
      go_simp
      exact hK _ _ rfl (Foot.refl _ _) hS
    · intro a w vs k K hR hp hi hS s1 s2 s3 hK
      have e19 : a.tmps.getD 19 undef = .pointer (some ⟨pb, 0, none⟩) := ((hp 9 (by decide)).2 19 rfl).trans (hp 9 (by decide)).1
      have e19_ := e19; rw [Array.getD_eq_getD_getElem?] at e19_
      clear hp hi s1 s2 s3
      have hc := (hc0 k w hS)
      refine wpOp_of rfl rfl ?_
      go_simp
      exact hK _ _ rfl (Foot.refl _ _) hS
    · intro a w vs k K hR hp hi hS s1 s2 s3 hK
      have e20 : a.tmps.getD 20 undef = .pointer (some ⟨rb, 0, none⟩) := ((hp 10 (by decide)).2 20 rfl).trans (hp 10 (by decide)).1
      obtain rfl := s1 1 (by decide) rfl
      have e20_ := e20; rw [Array.getD_eq_getD_getElem?] at e20_
      clear hp hi s1 s2 s3
      refine wpOp_of rfl rfl ?_
      go_simp
      refine (short_at rb b 2 w (PAt.rdr hS) (by omega) hmax).mono ?_
      rintro e w1 ⟨rfl, hr1, hf1⟩
      exact hK _ _ rfl (PF.rd hf1) (PAt.read hS hr1 hf1)
    · intro a w vs k K hR hp hi hS s1 s2 s3 hK
      have e10 : a.tmps.getD 10 undef = .pointer (some ⟨pb, 0, none⟩) := ((hp 0 (by decide)).2 10 rfl).trans (hp 0 (by decide)).1
      have e10_ := e10; rw [Array.getD_eq_getD_getElem?] at e10_
      clear hp hi s1 s2 s3
      refine wpOp_of rfl rfl ?_
      go_simp
      exact hK _ _ rfl (Foot.refl _ _) hS
    · intro a w vs k K hR hp hi hS s1 s2 s3 hK
      have e22 : a.tmps.getD 22 undef = .pointer (some ⟨pb, 0, none⟩) := ((hp 12 (by decide)).2 22 rfl).trans (hp 12 (by decide)).1
      have e22_ := e22; rw [Array.getD_eq_getD_getElem?] at e22_
      clear hp hi s1 s2 s3
      refine wpOp_of rfl rfl ?_
      go_simp
      exact hK _ _ rfl (Foot.refl _ _) hS
    · intro a w vs k K hR hp hi hS s1 s2 s3 hK
      have e23 : a.tmps.getD 23 undef = .pointer (some ⟨pb, 3, none⟩) := ((hp 13 (by decide)).2 23 rfl).trans (hp 13 (by decide)).1
      have e23_ := e23; rw [Array.getD_eq_getD_getElem?] at e23_
      clear hp hi s1 s2 s3
      refine wpOp_of rfl rfl ?_
      go_simp
      exact hK _ _ rfl (Foot.refl _ _) hS
    · intro a w vs k K hR hp hi hS s1 s2 s3 hK
      have e24 : a.tmps.getD 24 undef = .pointer (some ⟨pb, 3, none⟩) := ((hp 14 (by decide)).2 24 rfl).trans (hp 14 (by decide)).1
      have e16 : a.tmps.getD 16 undef = .int .i64 (rnum (tl b 0) 2 : Nat) := ((hp 6 (by decide)).2 16 rfl).trans (hp 6 (by decide)).1
      obtain rfl := s1 2 (by decide) rfl
      have e24_ := e24; rw [Array.getD_eq_getD_getElem?] at e24_
      have e16_ := e16; rw [Array.getD_eq_getD_getElem?] at e16_
      clear hp hi s1 s2 s3
      have hfr := PAt.fr hS 3
      have hce := PAt.c3 hS
      refine wpOp_of rfl rfl ?_
      go_simp
      exact hK undef _ trivial (PF.set _ _ _ _ _) (PAt.s3 hS _)
    · intro a w vs k K hR hp hi hS s1 s2 s3 hK
      have e11 : a.tmps.getD 11 undef = .pointer (some ⟨pb, 0, none⟩) := ((hp 1 (by decide)).2 11 rfl).trans (hp 1 (by decide)).1
      have e11_ := e11; rw [Array.getD_eq_getD_getElem?] at e11_
      clear hp hi s1 s2 s3
      refine wpOp_of rfl rfl ?_
      go_simp
      exact hK _ _ rfl (Foot.refl _ _) hS
    · intro a w vs k K hR hp hi hS s1 s2 s3 hK
      have e25 : a.tmps.getD 25 undef = .pointer (some ⟨pb, 0, none⟩) := ((hp 16 (by decide)).2 25 rfl).trans (hp 16 (by decide)).1
      have e25_ := e25; rw [Array.getD_eq_getD_getElem?] at e25_
      clear hp hi s1 s2 s3
      refine wpOp_of rfl rfl ?_
      go_simp
      exact hK _ _ rfl (Foot.refl _ _) hS
    · intro a w vs k K hR hp hi hS s1 s2 s3 hK
      have e26 : a.tmps.getD 26 undef = .pointer (some ⟨pb, 3, none⟩) := ((hp 17 (by decide)).2 26 rfl).trans (hp 17 (by decide)).1
      have e26_ := e26; rw [Array.getD_eq_getD_getElem?] at e26_
      clear hp hi s1 s2 s3
      refine wpOp_of rfl rfl ?_
      go_simp
      exact hK _ _ rfl (Foot.refl _ _) hS
    · intro a w vs k K hR hp hi hS s1 s2 s3 hK
      have e27 : a.tmps.getD 27 undef = .pointer (some ⟨pb, 4, none⟩) := ((hp 18 (by decide)).2 27 rfl).trans (hp 18 (by decide)).1
      have e21 : a.tmps.getD 21 undef = .int .i64 (rnum (tl b 2) 2 : Nat) := ((hp 11 (by decide)).2 21 rfl).trans (hp 11 (by decide)).1
      obtain rfl := s1 3 (by decide) rfl
      have e27_ := e27; rw [Array.getD_eq_getD_getElem?] at e27_
      have e21_ := e21; rw [Array.getD_eq_getD_getElem?] at e21_
      clear hp hi s1 s2 s3
      have hfr := PAt.fr hS 4
      have hce := PAt.c4 hS
      refine wpOp_of rfl rfl ?_
      go_simp
      exact hK undef _ trivial (PF.set _ _ _ _ _) (PAt.s4 hS _)
  case hfin =>
    intro vs w5 hR5 hH hS5
    have q0 : vs 0 = .pointer (some ⟨pb, 0, none⟩) := hH 0 (by decide)
    have q1 : vs 1 = .pointer (some ⟨pb, 0, none⟩) := hH 1 (by decide)
    have q2 : vs 2 = .pointer (some ⟨pb, 0, none⟩) := hH 2 (by decide)
    have q3 : vs 3 = .pointer (some ⟨pb, 0, none⟩) := hH 3 (by decide)
    have q4 : vs 4 = .pointer (some ⟨pb, 0, none⟩) := hH 4 (by decide)
    have q5 : vs 5 = .pointer (some ⟨rb, 0, none⟩) := hH 5 (by decide)
    have q6 : vs 6 = .int .i64 (rnum (tl b 0) 2 : Nat) := hH 6 (by decide)
    have q7 : vs 7 = .pointer (some ⟨pb, 0, none⟩) := hH 7 (by decide)
    have q8 : vs 8 = .pointer (some ⟨pb, 0, none⟩) := hH 8 (by decide)
    have q9 : vs 9 = .pointer (some ⟨pb, 0, none⟩) := hH 9 (by decide)
    have q10 : vs 10 = .pointer (some ⟨rb, 0, none⟩) := hH 10 (by decide)
    have q11 : vs 11 = .int .i64 (rnum (tl b 2) 2 : Nat) := hH 11 (by decide)
    have q12 : vs 12 = .pointer (some ⟨pb, 0, none⟩) := hH 12 (by decide)
    have q13 : vs 13 = .pointer (some ⟨pb, 3, none⟩) := hH 13 (by decide)
    have q14 : vs 14 = .pointer (some ⟨pb, 3, none⟩) := hH 14 (by decide)
    have q16 : vs 16 = .pointer (some ⟨pb, 0, none⟩) := hH 16 (by decide)
    have q17 : vs 17 = .pointer (some ⟨pb, 3, none⟩) := hH 17 (by decide)
    have q18 : vs 18 = .pointer (some ⟨pb, 4, none⟩) := hH 18 (by decide)
    clear hH
    simp only [putL, Act.put, List.setIfInBounds_toArray, List.set_cons_zero, List.set_cons_succ, q0, q1, q2, q3, q4, q5, q6, q7, q8, q9, q10, q11, q12, q13, q14, q16, q17, q18]
    clear q0 q1 q2 q3 q4 q5 q6 q7 q8 q9 q10 q11 q12 q13 q14 q16 q17 q18
    have hst0 := PAt.drew hS5
    have hFa : PF pb rb w _ := (Foot.drew _ _).trans hR5
    clear hc0 hS5 hR5
    go_wp2_with (fail)
    have hc0 : ∀ k w, (St5 (fun w => PAt w pb rb b g { { (⟨0, 0, 0, 0, 0, 0, ⟨#[]⟩⟩ : Seg) with sport := (rnum (tl b 0) 2 : Nat) } with dport := (rnum (tl b 2) 2 : Nat) } (tl b 4)) (fun w => PAt w pb rb b g { { (⟨0, 0, 0, 0, 0, 0, ⟨#[]⟩⟩ : Seg) with sport := (rnum (tl b 0) 2 : Nat) } with dport := (rnum (tl b 2) 2 : Nat) } (tl b 8)) (fun w => PAt w pb rb b g { { (⟨0, 0, 0, 0, 0, 0, ⟨#[]⟩⟩ : Seg) with sport := (rnum (tl b 0) 2 : Nat) } with dport := (rnum (tl b 2) 2 : Nat) } (tl b 12)) (fun w => PAt w pb rb b g { { { (⟨0, 0, 0, 0, 0, 0, ⟨#[]⟩⟩ : Seg) with sport := (rnum (tl b 0) 2 : Nat) } with dport := (rnum (tl b 2) 2 : Nat) } with seq := (rnum (tl b 4) 4 : Nat) } (tl b 12)) (fun w => PAt w pb rb b g { { { { (⟨0, 0, 0, 0, 0, 0, ⟨#[]⟩⟩ : Seg) with sport := (rnum (tl b 0) 2 : Nat) } with dport := (rnum (tl b 2) 2 : Nat) } with seq := (rnum (tl b 4) 4 : Nat) } with ack := (rnum (tl b 8) 4 : Nat) } (tl b 12))) k w → w.cell? ⟨pb, 0, none⟩ = some (.pointer (some ⟨rb, 0, none⟩)) := fun k w h => by rcases k with _ | _ | _ | _ | k <;> exact PAt.c0 h
    refine wp_region_list (by kernel_rfl) [(some 28, []), (some 29, []), (some 30, []), (some 31, [2]), (some 32, [3]), (some 33, [4]), (some 34, [5]), (some 35, []), (some 36, [7]), (some 37, [8]), (some 38, [9]), (some 39, [10, 6]), (some 40, [0, 0, 2, 3, 4, 5, 6, 10, 11]), (some 41, [12, 0, 2, 3, 4, 5, 6, 10, 11]), (some 42, [13, 0, 2, 3, 4, 5, 6, 10, 11]), (none, [14, 6, 11, 0, 2, 3, 4, 5, 6, 10, 11]), (some 43, [1, 0, 1, 2, 3, 4, 5, 6, 7, 8, 9, 10, 11, 12, 13, 14, 15]), (some 44, [16, 0, 1, 2, 3, 4, 5, 6, 7, 8, 9, 10, 11, 12, 13, 14, 15]), (some 45, [17, 0, 1, 2, 3, 4, 5, 6, 7, 8, 9, 10, 11, 12, 13, 14, 15]), (none, [18, 11, 15, 0, 1, 2, 3, 4, 5, 6, 7, 8, 9, 10, 11, 12, 13, 14, 15])] [6, 11, 15, 19] 111 20 (PF pb rb) (fun i v w => match i with | 0 => v = .pointer (some ⟨pb, 0, none⟩) | 1 => v = .pointer (some ⟨pb, 0, none⟩) | 2 => v = .pointer (some ⟨pb, 0, none⟩) | 3 => v = .pointer (some ⟨pb, 0, none⟩) | 4 => v = .pointer (some ⟨pb, 0, none⟩) | 5 => v = .pointer (some ⟨rb, 0, none⟩) | 6 => v = .int .u32 (rnum (tl b 4) 4 : Nat) | 7 => v = .pointer (some ⟨pb, 0, none⟩) | 8 => v = .pointer (some ⟨pb, 0, none⟩) | 9 => v = .pointer (some ⟨pb, 0, none⟩) | 10 => v = .pointer (some ⟨rb, 0, none⟩) | 11 => v = .int .u32 (rnum (tl b 8) 4 : Nat) | 12 => v = .pointer (some ⟨pb, 0, none⟩) | 13 => v = .pointer (some ⟨pb, 3, none⟩) | 14 => v = .pointer (some ⟨pb, 5, none⟩) | 15 => True | 16 => v = .pointer (some ⟨pb, 0, none⟩) | 17 => v = .pointer (some ⟨pb, 3, none⟩) | 18 => v = .pointer (some ⟨pb, 6, none⟩) | 19 => True | _ => True) (St5 (fun w => PAt w pb rb b g { { (⟨0, 0, 0, 0, 0, 0, ⟨#[]⟩⟩ : Seg) with sport := (rnum (tl b 0) 2 : Nat) } with dport := (rnum (tl b 2) 2 : Nat) } (tl b 4)) (fun w => PAt w pb rb b g { { (⟨0, 0, 0, 0, 0, 0, ⟨#[]⟩⟩ : Seg) with sport := (rnum (tl b 0) 2 : Nat) } with dport := (rnum (tl b 2) 2 : Nat) } (tl b 8)) (fun w => PAt w pb rb b g { { (⟨0, 0, 0, 0, 0, 0, ⟨#[]⟩⟩ : Seg) with sport := (rnum (tl b 0) 2 : Nat) } with dport := (rnum (tl b 2) 2 : Nat) } (tl b 12)) (fun w => PAt w pb rb b g { { { (⟨0, 0, 0, 0, 0, 0, ⟨#[]⟩⟩ : Seg) with sport := (rnum (tl b 0) 2 : Nat) } with dport := (rnum (tl b 2) 2 : Nat) } with seq := (rnum (tl b 4) 4 : Nat) } (tl b 12)) (fun w => PAt w pb rb b g { { { { (⟨0, 0, 0, 0, 0, 0, ⟨#[]⟩⟩ : Seg) with sport := (rnum (tl b 0) 2 : Nat) } with dport := (rnum (tl b 2) 2 : Nat) } with seq := (rnum (tl b 4) 4 : Nat) } with ack := (rnum (tl b 8) 4 : Nat) } (tl b 12))) (by kernel_rfl) rfl rfl (by kernel_rfl) (Foot.refl _) (fun _ _ _ => Foot.trans) ?Hst ?hst ?howed ?hfin
    case Hst =>
      intro i v w w2 _ hH _
      rcases i with _ | _ | _ | _ | _ | _ | _ | _ | _ | _ | _ | _ | _ | _ | _ | _ | _ | _ | _ | _ | _ <;> exact hH
    case hst =>
      exact hst0
    case howed =>
      refine owed_cons (owed_cons (owed_cons (owed_cons (owed_cons (owed_cons (owed_cons (owed_cons (owed_cons (owed_cons (owed_cons (owed_cons (owed_cons (owed_cons (owed_cons (owed_cons (owed_cons (owed_cons (owed_cons (owed_cons (owed_nil _) ?_) ?_) ?_) ?_) ?_) ?_) ?_) ?_) ?_) ?_) ?_) ?_) ?_) ?_) ?_) ?_) ?_) ?_) ?_) ?_
      · intro a w vs k K hR hp hi hS s1 s2 s3 hK
        have e0 : a.tmps.getD 0 undef = .pointer (some ⟨pb, 0, none⟩) := old_of hi (by kernel_rfl) rfl
        have e0_ := e0; rw [Array.getD_eq_getD_getElem?] at e0_
        clear hp hi s1 s2 s3
        refine wpOp_of rfl rfl ?_
        go_simp
        exact hK _ _ rfl (Foot.refl _ _) hS
      · intro a w vs k K hR hp hi hS s1 s2 s3 hK
        have e0 : a.tmps.getD 0 undef = .pointer (some ⟨pb, 0, none⟩) := old_of hi (by kernel_rfl) rfl
        have e0_ := e0; rw [Array.getD_eq_getD_getElem?] at e0_
        clear hp hi s1 s2 s3
        refine wpOp_of rfl rfl ?_
        go_simp
        exact hK _ _ rfl (Foot.refl _ _) hS
      · intro a w vs k K hR hp hi hS s1 s2 s3 hK
        have e0 : a.tmps.getD 0 undef = .pointer (some ⟨pb, 0, none⟩) := old_of hi (by kernel_rfl) rfl
        have e0_ := e0; rw [Array.getD_eq_getD_getElem?] at e0_
        clear hp hi s1 s2 s3
        refine wpOp_of rfl rfl ?_
        go_simp
        exact hK _ _ rfl (Foot.refl _ _) hS
      · intro a w vs k K hR hp hi hS s1 s2 s3 hK
        have e30 : a.tmps.getD 30 undef = .pointer (some ⟨pb, 0, none⟩) := ((hp 2 (by decide)).2 30 rfl).trans (hp 2 (by decide)).1
        have e30_ := e30; rw [Array.getD_eq_getD_getElem?] at e30_
        clear hp hi s1 s2 s3
        refine wpOp_of rfl rfl ?_
        go_simp
        exact hK _ _ rfl (Foot.refl _ _) hS
      · intro a w vs k K hR hp hi hS s1 s2 s3 hK
        have e31 : a.tmps.getD 31 undef = .pointer (some ⟨pb, 0, none⟩) := ((hp 3 (by decide)).2 31 rfl).trans (hp 3 (by decide)).1
        have e31_ := e31; rw [Array.getD_eq_getD_getElem?] at e31_
        clear hp hi s1 s2 s3
        refine wpOp_of rfl rfl ?_
        go_simp
        exact hK _ _ rfl (Foot.refl _ _) hS
      · intro a w vs k K hR hp hi hS s1 s2 s3 hK
        have e32 : a.tmps.getD 32 undef = .pointer (some ⟨pb, 0, none⟩) := ((hp 4 (by decide)).2 32 rfl).trans (hp 4 (by decide)).1
        have e32_ := e32; rw [Array.getD_eq_getD_getElem?] at e32_
        clear hp hi s1 s2 s3
        have hc := (hc0 k w hS)
        refine wpOp_of rfl rfl ?_
        go_simp
        exact hK _ _ rfl (Foot.refl _ _) hS
      · intro a w vs k K hR hp hi hS s1 s2 s3 hK
        have e33 : a.tmps.getD 33 undef = .pointer (some ⟨rb, 0, none⟩) := ((hp 5 (by decide)).2 33 rfl).trans (hp 5 (by decide)).1
        obtain rfl := s1 0 (by decide) rfl
        have e33_ := e33; rw [Array.getD_eq_getD_getElem?] at e33_
        clear hp hi s1 s2 s3
        refine wpOp_of rfl rfl ?_
        go_simp
        refine (word_at rb b 4 w (PAt.rdr hS) (by omega) hmax).mono ?_
        rintro e w1 ⟨rfl, hr1, hf1⟩
        exact hK _ _ rfl (PF.rd hf1) (PAt.read hS hr1 hf1)
      · intro a w vs k K hR hp hi hS s1 s2 s3 hK
        have e0 : a.tmps.getD 0 undef = .pointer (some ⟨pb, 0, none⟩) := old_of hi (by kernel_rfl) rfl
        have e0_ := e0; rw [Array.getD_eq_getD_getElem?] at e0_
        clear hp hi s1 s2 s3
        refine wpOp_of rfl rfl ?_
        go_simp
        exact hK _ _ rfl (Foot.refl _ _) hS
      · intro a w vs k K hR hp hi hS s1 s2 s3 hK
        have e35 : a.tmps.getD 35 undef = .pointer (some ⟨pb, 0, none⟩) := ((hp 7 (by decide)).2 35 rfl).trans (hp 7 (by decide)).1
        have e35_ := e35; rw [Array.getD_eq_getD_getElem?] at e35_
        clear hp hi s1 s2 s3
        refine wpOp_of rfl rfl ?_
        go_simp
        exact hK _ _ rfl (Foot.refl _ _) hS
      · intro a w vs k K hR hp hi hS s1 s2 s3 hK
        have e36 : a.tmps.getD 36 undef = .pointer (some ⟨pb, 0, none⟩) := ((hp 8 (by decide)).2 36 rfl).trans (hp 8 (by decide)).1
        have e36_ := e36; rw [Array.getD_eq_getD_getElem?] at e36_
        clear hp hi s1 s2 s3
        refine wpOp_of rfl rfl ?_
        go_simp
        exact hK _ _ rfl (Foot.refl _ _) hS
      · intro a w vs k K hR hp hi hS s1 s2 s3 hK
        have e37 : a.tmps.getD 37 undef = .pointer (some ⟨pb, 0, none⟩) := ((hp 9 (by decide)).2 37 rfl).trans (hp 9 (by decide)).1
        have e37_ := e37; rw [Array.getD_eq_getD_getElem?] at e37_
        clear hp hi s1 s2 s3
        have hc := (hc0 k w hS)
        refine wpOp_of rfl rfl ?_
        go_simp
        exact hK _ _ rfl (Foot.refl _ _) hS
      · intro a w vs k K hR hp hi hS s1 s2 s3 hK
        have e38 : a.tmps.getD 38 undef = .pointer (some ⟨rb, 0, none⟩) := ((hp 10 (by decide)).2 38 rfl).trans (hp 10 (by decide)).1
        obtain rfl := s1 1 (by decide) rfl
        have e38_ := e38; rw [Array.getD_eq_getD_getElem?] at e38_
        clear hp hi s1 s2 s3
        refine wpOp_of rfl rfl ?_
        go_simp
        refine (word_at rb b 8 w (PAt.rdr hS) (by omega) hmax).mono ?_
        rintro e w1 ⟨rfl, hr1, hf1⟩
        exact hK _ _ rfl (PF.rd hf1) (PAt.read hS hr1 hf1)
      · intro a w vs k K hR hp hi hS s1 s2 s3 hK
        have e28 : a.tmps.getD 28 undef = .pointer (some ⟨pb, 0, none⟩) := ((hp 0 (by decide)).2 28 rfl).trans (hp 0 (by decide)).1
        have e28_ := e28; rw [Array.getD_eq_getD_getElem?] at e28_
        clear hp hi s1 s2 s3
        refine wpOp_of rfl rfl ?_
        go_simp
        exact hK _ _ rfl (Foot.refl _ _) hS
      · intro a w vs k K hR hp hi hS s1 s2 s3 hK
        have e40 : a.tmps.getD 40 undef = .pointer (some ⟨pb, 0, none⟩) := ((hp 12 (by decide)).2 40 rfl).trans (hp 12 (by decide)).1
        have e40_ := e40; rw [Array.getD_eq_getD_getElem?] at e40_
        clear hp hi s1 s2 s3
        refine wpOp_of rfl rfl ?_
        go_simp
        exact hK _ _ rfl (Foot.refl _ _) hS
      · intro a w vs k K hR hp hi hS s1 s2 s3 hK
        have e41 : a.tmps.getD 41 undef = .pointer (some ⟨pb, 3, none⟩) := ((hp 13 (by decide)).2 41 rfl).trans (hp 13 (by decide)).1
        have e41_ := e41; rw [Array.getD_eq_getD_getElem?] at e41_
        clear hp hi s1 s2 s3
        refine wpOp_of rfl rfl ?_
        go_simp
        exact hK _ _ rfl (Foot.refl _ _) hS
      · intro a w vs k K hR hp hi hS s1 s2 s3 hK
        have e42 : a.tmps.getD 42 undef = .pointer (some ⟨pb, 5, none⟩) := ((hp 14 (by decide)).2 42 rfl).trans (hp 14 (by decide)).1
        have e34 : a.tmps.getD 34 undef = .int .u32 (rnum (tl b 4) 4 : Nat) := ((hp 6 (by decide)).2 34 rfl).trans (hp 6 (by decide)).1
        obtain rfl := s1 2 (by decide) rfl
        have e42_ := e42; rw [Array.getD_eq_getD_getElem?] at e42_
        have e34_ := e34; rw [Array.getD_eq_getD_getElem?] at e34_
        clear hp hi s1 s2 s3
        have hfr := PAt.fr hS 5
        have hce := PAt.c5 hS
        refine wpOp_of rfl rfl ?_
        go_simp
        exact hK undef _ trivial (PF.set _ _ _ _ _) (PAt.s5 hS _)
      · intro a w vs k K hR hp hi hS s1 s2 s3 hK
        have e29 : a.tmps.getD 29 undef = .pointer (some ⟨pb, 0, none⟩) := ((hp 1 (by decide)).2 29 rfl).trans (hp 1 (by decide)).1
        have e29_ := e29; rw [Array.getD_eq_getD_getElem?] at e29_
        clear hp hi s1 s2 s3
        refine wpOp_of rfl rfl ?_
        go_simp
        exact hK _ _ rfl (Foot.refl _ _) hS
      · intro a w vs k K hR hp hi hS s1 s2 s3 hK
        have e43 : a.tmps.getD 43 undef = .pointer (some ⟨pb, 0, none⟩) := ((hp 16 (by decide)).2 43 rfl).trans (hp 16 (by decide)).1
        have e43_ := e43; rw [Array.getD_eq_getD_getElem?] at e43_
        clear hp hi s1 s2 s3
        refine wpOp_of rfl rfl ?_
        go_simp
        exact hK _ _ rfl (Foot.refl _ _) hS
      · intro a w vs k K hR hp hi hS s1 s2 s3 hK
        have e44 : a.tmps.getD 44 undef = .pointer (some ⟨pb, 3, none⟩) := ((hp 17 (by decide)).2 44 rfl).trans (hp 17 (by decide)).1
        have e44_ := e44; rw [Array.getD_eq_getD_getElem?] at e44_
        clear hp hi s1 s2 s3
        refine wpOp_of rfl rfl ?_
        go_simp
        exact hK _ _ rfl (Foot.refl _ _) hS
      · intro a w vs k K hR hp hi hS s1 s2 s3 hK
        have e45 : a.tmps.getD 45 undef = .pointer (some ⟨pb, 6, none⟩) := ((hp 18 (by decide)).2 45 rfl).trans (hp 18 (by decide)).1
        have e39 : a.tmps.getD 39 undef = .int .u32 (rnum (tl b 8) 4 : Nat) := ((hp 11 (by decide)).2 39 rfl).trans (hp 11 (by decide)).1
        obtain rfl := s1 3 (by decide) rfl
        have e45_ := e45; rw [Array.getD_eq_getD_getElem?] at e45_
        have e39_ := e39; rw [Array.getD_eq_getD_getElem?] at e39_
        clear hp hi s1 s2 s3
        have hfr := PAt.fr hS 6
        have hce := PAt.c6 hS
        refine wpOp_of rfl rfl ?_
        go_simp
        exact hK undef _ trivial (PF.set _ _ _ _ _) (PAt.s6 hS _)
    case hfin =>
      intro vs w5 hR5 hH hS5
      have q0 : vs 0 = .pointer (some ⟨pb, 0, none⟩) := hH 0 (by decide)
      have q1 : vs 1 = .pointer (some ⟨pb, 0, none⟩) := hH 1 (by decide)
      have q2 : vs 2 = .pointer (some ⟨pb, 0, none⟩) := hH 2 (by decide)
      have q3 : vs 3 = .pointer (some ⟨pb, 0, none⟩) := hH 3 (by decide)
      have q4 : vs 4 = .pointer (some ⟨pb, 0, none⟩) := hH 4 (by decide)
      have q5 : vs 5 = .pointer (some ⟨rb, 0, none⟩) := hH 5 (by decide)
      have q6 : vs 6 = .int .u32 (rnum (tl b 4) 4 : Nat) := hH 6 (by decide)
      have q7 : vs 7 = .pointer (some ⟨pb, 0, none⟩) := hH 7 (by decide)
      have q8 : vs 8 = .pointer (some ⟨pb, 0, none⟩) := hH 8 (by decide)
      have q9 : vs 9 = .pointer (some ⟨pb, 0, none⟩) := hH 9 (by decide)
      have q10 : vs 10 = .pointer (some ⟨rb, 0, none⟩) := hH 10 (by decide)
      have q11 : vs 11 = .int .u32 (rnum (tl b 8) 4 : Nat) := hH 11 (by decide)
      have q12 : vs 12 = .pointer (some ⟨pb, 0, none⟩) := hH 12 (by decide)
      have q13 : vs 13 = .pointer (some ⟨pb, 3, none⟩) := hH 13 (by decide)
      have q14 : vs 14 = .pointer (some ⟨pb, 5, none⟩) := hH 14 (by decide)
      have q16 : vs 16 = .pointer (some ⟨pb, 0, none⟩) := hH 16 (by decide)
      have q17 : vs 17 = .pointer (some ⟨pb, 3, none⟩) := hH 17 (by decide)
      have q18 : vs 18 = .pointer (some ⟨pb, 6, none⟩) := hH 18 (by decide)
      clear hH
      simp only [putL, Act.put, List.setIfInBounds_toArray, List.set_cons_zero, List.set_cons_succ, q0, q1, q2, q3, q4, q5, q6, q7, q8, q9, q10, q11, q12, q13, q14, q16, q17, q18]
      clear q0 q1 q2 q3 q4 q5 q6 q7 q8 q9 q10 q11 q12 q13 q14 q16 q17 q18
      have hP := (show PAt w5 pb rb b g _ (tl b 12) from hS5)
      have hFb : PF pb rb w w5 := hFa.trans ((Foot.drew _ _).trans hR5)
      clear hc0 hS5 hR5 hFa hst0
      have hn12 := rnum_lt (tl b 12) 1 (by rw [tl_size]; omega)
      have hn13 := rnum_lt (tl b 13) 1 (by rw [tl_size]; omega)
      have hcd : Hid (tcpCode b g = if rnum (tl b 12) 1 / 16 < 5 then 3 else if b.size < rnum (tl b 12) 1 / 16 * 4 then 2 else if g then 0 else 4) := by
        show _ = _; unfold tcpCode; rw [if_neg (by omega)]
      have hsg : Hid (tcpSeg b = ⟨(rnum (tl b 0) 2 : Nat), (rnum (tl b 2) 2 : Nat), (rnum (tl b 4) 4 : Nat), (rnum (tl b 8) 4 : Nat), (rnum (tl b 13) 1 % 64 : Nat), (rnum (tl b 14) 2 : Nat), tl b (rnum (tl b 12) 1 / 16 * 4)⟩) := rfl
      have hband : bits .and .i64 (rnum (tl b 13) 1 : Nat) 63 = ((rnum (tl b 13) 1 % 64 : Nat) : Int) := by
        rw [bits_and_mask _ 6 (by decide) 63 rfl]; rfl
      have c0 := hP.c0
      have HP := Lib.hid hP; clear hP
      go_wp2_with (fail)
      refine (byte_at rb b 12 _ HP.out.rdr (by omega) hmax).mono ?_
      rintro e w6 ⟨rfl, hr6, hf6⟩
      have hP6 := HP.out.read hr6 hf6
      have hF6 := hFb.trans (PF.rd hf6)
      clear hFb hf6 hr6 HP c0
      have c0 := hP6.c0
      have HP6 := Lib.hid hP6; clear hP6
      generalize rnum (tl b 12) 1 = n12 at *
      have hdiv : Hid ((n12 : Int) / 16 = ((n12 / 16 : Nat) : Int)) := by show _ = _; omega
      go_wp2_with (fail)
      refine (byte_at rb b 13 _ HP6.out.rdr (by omega) hmax).mono ?_
      rintro e w7 ⟨rfl, hr7, hf7⟩
      have hP7 := HP6.out.read hr7 hf7
      have hF7 := hF6.trans (PF.rd hf7)
      clear hF6 hf7 hr7 HP6 c0
      have c7 := hP7.c7
      have f7 := hP7.fr 7
      have HP7 := Lib.hid hP7; clear hP7
      generalize rnum (tl b 13) 1 = n13 at *
      rw [hdiv.out]
      clear hdiv
      have hm16 : n12 / 16 < 16 := by omega
      generalize n12 / 16 = m at *
      generalize n13 % 64 = fl at *
      have c0 := HP7.out.c0
      go_wp2_with (fail)
      have hP8 := HP7.out.s7 (fl : Int)
      have hF8 := hF7.trans (PF.set w7 pb rb 7 (.int .i64 (fl : Int)))
      clear hF7 HP7 c0 c7 f7
      generalize w7.setCell ⟨pb, 7, none⟩ (.int .i64 (fl : Int)) = w8 at *
      have HP8 := Lib.hid hP8; clear hP8
      refine (short_at rb b 14 _ HP8.out.rdr (by omega) hmax).mono ?_
      rintro e w9 ⟨rfl, hr9, hf9⟩
      have hP9 := HP8.out.read hr9 hf9
      have hF9 := hF8.trans (PF.rd hf9)
      clear hF8 hf9 hr9 HP8
      have c8 := hP9.c8
      have f8 := hP9.fr 8
      have c0 := hP9.c0
      have HP9 := Lib.hid hP9; clear hP9
      generalize rnum (tl b 14) 2 = wi at *
      go_wp2_with (fail)
      have hP10 := HP9.out.s8 (wi : Int)
      have hF10 := hF9.trans (PF.set w9 pb rb 8 (.int .i64 (wi : Int)))
      clear hF9 HP9 c0 c8 f8
      generalize w9.setCell ⟨pb, 8, none⟩ (.int .i64 (wi : Int)) = w10 at *
      have HP10 := Lib.hid hP10; clear hP10
      refine (take_at rb b 16 _ 4 _ (by omega) HP10.out.rdr (by omega) hmax).mono ?_
      rintro e w11 ⟨⟨s4, rfl⟩, hr11, hf11⟩
      have hP11 := HP10.out.read hr11 hf11
      have hF11 := hF10.trans (PF.rd hf11)
      clear hF10 hf11 hr11 HP10
      have c0 := hP11.c0
      have c1 := hP11.c1
      have c2 := hP11.c2
      have HP11 := Lib.hid hP11; clear hP11
      have HB := Lib.hid hb; clear hb
      by_cases hm5 : m < 5
      · go_wp2
        go_ret
        have hc := hcd.out
        rw [if_pos hm5] at hc
        exact ⟨by rw [hc]; rfl, hF11, fun h => by rw [hc] at h; exact absurd h (by decide)⟩
      · by_cases hlen : b.size < m * 4
        · have hl1 : decide (b.size < m * 4) = true := by simp [hlen]
          have hl2 : (b.size : Int) < (m : Int) * 4 := by omega
          go_wp2
          go_ret
          have hc := hcd.out
          rw [if_neg hm5, if_pos hlen] at hc
          exact ⟨by rw [hc]; rfl, hF11, fun h => by rw [hc] at h; exact absurd h (by decide)⟩
        · have hl2 : ¬ (b.size : Int) < (m : Int) * 4 := by omega
          have hl1 : decide (b.size < m * 4) = false := by simp [hlen]
          cases g
          · go_wp2
            go_ret
            have hc := hcd.out
            rw [if_neg hm5, if_neg hlen] at hc
            simp only [Bool.false_eq_true, if_false] at hc
            exact ⟨by rw [hc]; rfl, hF11, fun h => by rw [hc] at h; exact absurd h (by decide)⟩
          · go_wp2_with (fail)
            refine (take_at rb b (16 + 4) _ (m * 4 - 20) _ (by omega) HP11.out.rdr (by have := HB.out; omega) hmax).mono ?_
            rintro e w12 ⟨⟨s5, rfl⟩, hr12, hf12⟩
            have hP12 := HP11.out.read hr12 hf12
            have hF12 := hF11.trans (PF.rd hf12)
            clear hF11 hf12 hr12 HP11 c0 c1 c2
            rw [show 16 + 4 + (m * 4 - 20) = m * 4 by omega] at hP12
            have c0 := hP12.c0
            have c9 := hP12.c9
            have f9 := hP12.fr 9
            have HP12 := Lib.hid hP12; clear hP12
            go_wp2_with (fail)
            refine (rest_any rb (tl b (m * 4)) _ HP12.out.rdr (by rw [tl_size]; omega)).mono ?_
            rintro e w13 ⟨rfl, hr13, hf13⟩
            have hP13 := HP12.out.read hr13 hf13
            have hF13 := hF12.trans (PF.rd hf13)
            clear hF12 hf13 hr13 HP12 c0 c9 f9
            have c9 := hP13.c9
            have f9 := hP13.fr 9
            have HP13 := Lib.hid hP13; clear hP13
            go_wp2
            go_ret
            have hc := hcd.out
            rw [if_neg hm5, if_neg hlen] at hc
            simp only [if_true] at hc
            refine ⟨by rw [hc]; rfl, hF13.trans (PF.set _ _ _ _ _), fun _ => ⟨ByteArray.empty, ?_⟩⟩
            rw [hsg.out]
            exact HP13.out.s9 _

end Go.Proofs.Ytcmgfmpmapnckaa
