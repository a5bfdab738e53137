/- The walk of the law SegmentBent. Written by wip/genbent.py. -/
import Derived.Test.YtcmgfmpmapnckaaPm
import Derived.Lib.ConvBytes
import Derived.Laws.BytesArg
namespace Go.Proofs.Ytcmgfmpmapnckaa
open Go.RowKit
set_option linter.unusedVariables false
set_option linter.unusedSimpArgs false

theorem encode_tcp_str (sp dp seq ack fl wi : Nat) (data : ByteArray) (src dst : Nat) (w : World) (h1 : sp ≤ 65535) (h2 : dp ≤ 65535) (h3 : data.size ≤ 65495) (h4 : wi ≤ 65535) (h5 : fl ≤ 63) (h6 : seq < 4294967296) (h7 : ack < 4294967296) (hsrc : src < 4294967296) (hdst : dst < 4294967296) :
    Calls Try.prog 11 #[.int .i64 6, .int .u32 src, .int .u32 dst, .agg #[.int .i64 (sp : Nat), .int .i64 (dp : Nat), .int .u32 (seq : Nat), .int .u32 (ack : Nat), .int .i64 (fl : Nat), .int .i64 (wi : Nat), .string data]] w fun e w' =>
      e = .returned (.tuple #[.string (str (refTcpRes src dst sp dp seq ack fl wi data)), .int .i64 0]) ∧ Below w.heap.size w w' := by
  rw [← tcp_same]
  exact encode_tcp sp dp seq ack fl wi data src dst w h1 h2 h3 h4 h5 h6 h7 hsrc hdst

set_option maxHeartbeats 2000000 in
set_option maxRecDepth 100000 in
theorem sbent_skip_true (src dst : Int) (s : Seg) (k : Int) (w : World) (h : 1000 < s.data.size) :
    Calls Try.prog 4 #[.bool true, .int .u32 src, .int .u32 dst, .agg s.cells, .int .u16 k] w (TruePost w) := by
  obtain ⟨sport, dport, seq, ack, flags, window, data⟩ := s
  unfold Seg.cells
  simp only at h
  have hF : ∀ o w', Below (w.alloc o).heap.size (w.alloc o) w' → Below w.heap.size w w' := fun o w' h => ((Below.refl _ _).alloc (Nat.le_refl _) o).trans (h.mono (by simp))
  have HF := Lib.hid hF; clear hF
  have h1 : (1000 : Int) < data.size := by omega
  clear h
  simp only
  go_enter Try.func4, Try.ntmps4
  go_wp2_with (go_at_call 10; (with_reducible refine (awake6 _).mono ?_); rintro e w1 ⟨rfl, hf⟩)
  go_ret
  exact ⟨rfl, HF.out _ _ hf⟩

set_option maxHeartbeats 2000000 in
set_option maxRecDepth 100000 in
theorem sbent_skip_false (src dst : Int) (s : Seg) (k : Int) (w : World) (h : 1000 < s.data.size) :
    Calls Try.prog 4 #[.bool false, .int .u32 src, .int .u32 dst, .agg s.cells, .int .u16 k] w (TruePost w) := by
  obtain ⟨sport, dport, seq, ack, flags, window, data⟩ := s
  unfold Seg.cells
  simp only at h
  have hF : ∀ o w', Below (w.alloc o).heap.size (w.alloc o) w' → Below w.heap.size w w' := fun o w' h => ((Below.refl _ _).alloc (Nat.le_refl _) o).trans (h.mono (by simp))
  have HF := Lib.hid hF; clear hF
  have h1 : (1000 : Int) < data.size := by omega
  clear h
  simp only
  go_enter Try.func4, Try.ntmps4
  go_wp2_with (go_at_call 10; (with_reducible refine (awake6 _).mono ?_); rintro e w1 ⟨rfl, hf⟩)
  go_ret
  exact ⟨rfl, HF.out _ _ hf⟩

set_option maxHeartbeats 2000000 in
set_option maxRecDepth 100000 in
theorem sbent_no_true (src dst : Int) (sport dport seq ack flags window : Int) (data : ByteArray) (k : Int) (w : World) (h : data.size ≤ 1000) (hr : ¬ segRight 17 ⟨sport, dport, 0, 0, 0, 0, data⟩) :
    Calls Try.prog 4 #[.bool true, .int .u32 src, .int .u32 dst, .agg #[.int .i64 sport, .int .i64 dport, .int .u32 seq, .int .u32 ack, .int .i64 flags, .int .i64 window, .string data], .int .u16 k] w (TruePost w) := by
  have e1 := fun w => encode_no 17 src dst _ w hr
  unfold Seg.cells at e1
  simp only at e1
  have E1 := Lib.hid e1; clear e1 hr
  have hF : ∀ o w1 w2, Below (w.alloc o).heap.size (w.alloc o) w1 → Below w1.heap.size w1 w2 → Below w.heap.size w w2 := fun o w1 w2 h k => ((Below.refl _ _).alloc (Nat.le_refl _) o).trans ((h.trans (k.mono h.size)).mono (by simp))
  have HF := Lib.hid hF; clear hF
  have h1 : (data.size : Int) ≤ 1000 := by omega
  clear h
  go_enter Try.func4, Try.ntmps4
  go_wp2_with (first | (go_at_call 11; (with_reducible refine (E1.out _).mono ?_); rintro e w1 ⟨rfl, hf1⟩) | (go_at_call 10; (with_reducible refine (awake6 _).mono ?_); rintro e w2 ⟨rfl, hf2⟩))
  go_ret
  exact ⟨rfl, HF.out _ _ _ hf1 hf2⟩

set_option maxHeartbeats 2000000 in
set_option maxRecDepth 100000 in
theorem sbent_no_false (src dst : Int) (sport dport seq ack flags window : Int) (data : ByteArray) (k : Int) (w : World) (h : data.size ≤ 1000) (hr : ¬ segRight 6 ⟨sport, dport, seq, ack, flags, window, data⟩) :
    Calls Try.prog 4 #[.bool false, .int .u32 src, .int .u32 dst, .agg #[.int .i64 sport, .int .i64 dport, .int .u32 seq, .int .u32 ack, .int .i64 flags, .int .i64 window, .string data], .int .u16 k] w (TruePost w) := by
  have e1 := fun w => encode_no 6 src dst _ w hr
  unfold Seg.cells at e1
  simp only at e1
  have E1 := Lib.hid e1; clear e1 hr
  have hF : ∀ o w1 w2, Below (w.alloc o).heap.size (w.alloc o) w1 → Below w1.heap.size w1 w2 → Below w.heap.size w w2 := fun o w1 w2 h k => ((Below.refl _ _).alloc (Nat.le_refl _) o).trans ((h.trans (k.mono h.size)).mono (by simp))
  have HF := Lib.hid hF; clear hF
  have h1 : (data.size : Int) ≤ 1000 := by omega
  clear h
  go_enter Try.func4, Try.ntmps4
  go_wp2_with (first | (go_at_call 11; (with_reducible refine (E1.out _).mono ?_); rintro e w1 ⟨rfl, hf1⟩) | (go_at_call 10; (with_reducible refine (awake6 _).mono ?_); rintro e w2 ⟨rfl, hf2⟩))
  go_ret
  exact ⟨rfl, HF.out _ _ _ hf1 hf2⟩

theorem str_ne (l : List UInt8) (h : l.length ≠ 0) : (str l).toList.isEmpty = false := by
  rw [ByteArray.toList_eq, str_toList]
  cases l with
  | nil => exact absurd rfl h
  | cons => rfl

/-- Bytes of which one bit is turned. -/
def flip (l : List UInt8) (k : Nat) : List UInt8 := l.set (k / 8) (UInt8.ofNat ((l.getD (k / 8) 0).toNat ^^^ 2 ^ (k % 8)))
theorem xor_lt (a m : Nat) (h : a < 256) (hm : m < 8) : a ^^^ 2 ^ m < 256 := by
  have h1 : 2 ^ m < 2 ^ 8 := Nat.pow_lt_pow_right (by decide) hm
  exact Nat.xor_lt_two_pow (n := 8) h h1
theorem pow_lt8 (m : Nat) (hm : m < 8) : 2 ^ m < 256 := by have : 2 ^ m < 2 ^ 8 := Nat.pow_lt_pow_right (by decide) hm; omega
theorem wrap_pow (m : Nat) (hm : m < 8) : IntKind.u8.wrap (2 ^ m) = ((2 ^ m : Nat) : Int) := by
  have h := pow_lt8 m hm
  rw [IntKind.wrap_u8]
  have e : (2 : Int) ^ m = ((2 ^ m : Nat) : Int) := by simp
  rw [e]
  generalize 2 ^ m = x at h
  omega

/-- A row's cells, read one by one, and not frozen. -/
def RowIs (n cb : Nat) (g : Nat → Nat) (w : World) : Prop := ∀ i, i < n → w.cell? ⟨cb, i, none⟩ = some (.int .u8 (g i : Nat)) ∧ w.frozen? ⟨cb, i, none⟩ = false
theorem RowIs.set {n cb : Nat} {g g' : Nat → Nat} {w : World} (h : RowIs n cb g w) (j v : Nat) (hj : j < n) (hv : g' j = v) (ho : ∀ i, i < n → i ≠ j → g' i = g i) : RowIs n cb g' (w.setCell ⟨cb, j, none⟩ (.int .u8 (v : Nat))) := by
  intro i hi
  obtain ⟨hc, hf⟩ := h i hi
  have hb : ∃ cs T fr, w.heap[cb]? = some (.cells cs T fr) := by
    unfold World.cell? at hc
    split at hc
    · rename_i cs T fr e; exact ⟨cs, T, fr, e⟩
    · simp at hc
  obtain ⟨cs, T, fr, hb⟩ := hb
  have hb2 := blk_set hb j (.int .u8 (v : Nat))
  rw [blk_cell hb i] at hc
  refine ⟨?_, ?_⟩
  · rw [blk_cell hb2 i, Array.getElem?_setIfInBounds]
    by_cases e : j = i
    · subst e
      have : j < cs.size := (Array.getElem?_eq_some_iff.1 hc).1
      simp [this, hv]
    · rw [if_neg e, hc, ho i hi (fun x => e x.symm)]
  · simp only [World.frozen?, hb2]
    simpa only [World.frozen?, hb] using hf
theorem flip_getD (l : List UInt8) (k i : Nat) (h : k / 8 < l.length) : (flip l k).getD i 0 = if i = k / 8 then UInt8.ofNat ((l.getD (k / 8) 0).toNat ^^^ 2 ^ (k % 8)) else l.getD i 0 := by
  unfold flip
  simp only [List.getD_eq_getElem?_getD, List.getElem?_set]
  by_cases e : k / 8 = i
  · subst e; simp [h]
  · simp [e, Ne.symm e]
/-- What is asked of a segment's bytes with a bit turned. -/
def BentOk (p : Int) (src dst : Nat) (l : List UInt8) (k : Nat) : Prop :=
  parseCode p src dst (str (flip l k)) ≠ 0 ∨ (p = 17 ∧ (flip l k).getD 6 0 = 0 ∧ (flip l k).getD 7 0 = 0)

set_option maxHeartbeats 4000000 in
set_option maxRecDepth 100000 in
theorem sbent_yes_true (src dst : Nat) (sport dport seq ack flags window : Int) (data : ByteArray) (k : Nat) (w : World) (hk : k < 65536) (h : data.size ≤ 1000) (hsrc : src < 4294967296) (hdst : dst < 4294967296) (L : List UInt8)
    (hE : ∀ w, Calls Try.prog 11 #[.int .i64 17, .int .u32 src, .int .u32 dst, .agg #[.int .i64 sport, .int .i64 dport, .int .u32 0, .int .u32 0, .int .i64 0, .int .i64 0, .string data]] w fun e w' => e = .returned (.tuple #[.string (str L), .int .i64 0]) ∧ Below w.heap.size w w')
    (hl1 : 8 ≤ L.length) (hl2 : L.length ≤ 2000) (hplain : BentOk 17 src dst L (k % (8 * L.length))) :
    Calls Try.prog 4 #[.bool true, .int .u32 src, .int .u32 dst, .agg #[.int .i64 sport, .int .i64 dport, .int .u32 seq, .int .u32 ack, .int .i64 flags, .int .i64 window, .string data], .int .u16 k] w (TruePost w) := by
  have E1 := Lib.hid hE; clear hE
  have h1 : (data.size : Int) ≤ 1000 := by omega
  have hz : (str L).size = L.length := str_size L
  have hne : (str L).toList.isEmpty = false := str_ne L (by omega)
  obtain ⟨n, hn⟩ : ∃ n, n = L.length := ⟨_, rfl⟩
  rw [← hn] at hz hl1 hl2
  have HN := Lib.hid hn; clear hn
  have hm1 : IntKind.i64.wrap (8 * (n : Int)) = 8 * n := IntWalk.i64_in _ (by omega)
  have hm2 : ¬ (8 * (n : Int)) = 0 := by omega
  have hm3 : (8 * (n : Int) == 0) = false := by simp; omega
  have HH := Lib.hid h; clear h
  go_enter Try.func4, Try.ntmps4
  go_wp2_with (go_at_call 11; (with_reducible refine (E1.out _).mono ?_); rintro e w1 ⟨rfl, hf1⟩)
  rw [Lib.run_convert_string_bytes (P := Try.prog) w1 9 35 5 (str L) Try.underlying9 Try.underlying35 Try.underlying5]
  simp only [Result.andThen]
  rw [Oper.upon_value]
  have hnew := Lib.bytesWorld_at_new w1 5 (str L)
  have hold : ∀ i, i < w1.heap.size → (Lib.bytesWorld w1 5 (str L)).heap[i]? = w1.heap[i]? := fun i hi => Lib.bytesWorld_at_old w1 5 (str L) i hi
  have hsz2 := Lib.bytesWorld_size w1 5 (str L)
  have hcell0 : ∀ i, i < n → (Lib.bytesWorld w1 5 (str L)).cell? ⟨w1.heap.size, i, none⟩ = some (.int .u8 (L.getD i 0).toNat) := fun i hi => by
    have := Lib.bytesWorld_cell w1 5 (str L) i (by rw [hz]; exact hi)
    rwa [str_toList] at this
  have hcs : n ≤ (Lib.bytesCells w1 5 (str L)).size := by
    have : (str L).data.size = n := hz
    unfold Lib.bytesCells
    simp only [Array.size_append, Array.size_map, this]
    omega
  have hos : (Lib.bytesWorld w1 5 (str L)).os = w1.os ∧ (Lib.bytesWorld w1 5 (str L)).tape = w1.tape ∧ (Lib.bytesWorld w1 5 (str L)).output = w1.output := by
    unfold Lib.bytesWorld World.freeze
    simp only [Nat.one_ne_zero, if_false]
    exact ⟨rfl, rfl, rfl⟩
  generalize Lib.bytesCells w1 5 (str L) = cs at *
  generalize Lib.bytesWorld w1 5 (str L) = w2 at *
  obtain ⟨kk, hkk⟩ : ∃ kk : Nat, kk = k % (8 * n) := ⟨_, rfl⟩
  have ekk : (k : Int) % (8 * (n : Int)) = (kk : Int) := by rw [hkk]; simp
  rw [ekk]
  have hkk2 : kk < 8 * n := by rw [hkk]; exact Nat.mod_lt _ (by omega)
  rw [← HN.out, ← hkk] at hplain
  have HK := Lib.hid hkk; clear hkk ekk
  have HPL := Lib.hid hplain; clear hplain
  generalize grownCap w1 (str L).size 0 5 = cap
  rw [hz]
  generalize hcb : w1.heap.size = cb at *
  have HCB := Lib.hid hcb; clear hcb
  obtain ⟨j, hj⟩ : ∃ j, j = kk / 8 := ⟨_, rfl⟩
  obtain ⟨m, hm⟩ : ∃ m, m = kk % 8 := ⟨_, rfl⟩
  have hjn : j < n := by omega
  have hm8 : m < 8 := by omega
  have ej : (kk : Int) / 8 = (j : Int) := by omega
  have em : (kk : Int) % 8 = (m : Int) := by omega
  have ew : IntKind.i64.wrap (j : Int) = (j : Int) := IntWalk.i64_in _ (by omega)
  have et : (kk : Int).tmod 8 = (m : Int) := by rw [Int.tmod_eq_emod_of_nonneg (by omega)]; exact em
  have HJ := Lib.hid hj; clear hj
  have HM := Lib.hid hm; clear hm
  obtain ⟨c, hc⟩ : ∃ c, c = L.getD j 0 := ⟨_, rfl⟩
  have hcj := hcell0 j hjn
  rw [← hc] at hcj
  have HC := Lib.hid hc; clear hc
  have hc256 := c.toNat_lt
  obtain ⟨xv, hv⟩ : ∃ xv : Nat, xv = c.toNat ^^^ 2 ^ m := ⟨_, rfl⟩
  have hv256 : xv < 256 := by rw [hv]; exact xor_lt _ _ hc256 hm8
  have exor : bits .xor .u8 (c.toNat : Int) (IntKind.u8.wrap (2 ^ m)) = (xv : Int) := by
    rw [wrap_pow m hm8, u8_xor_nat _ _ hc256 (pow_lt8 m hm8), ← hv]
  have HV := Lib.hid hv; clear hv
  have hfr : ∀ i, i < n → w2.frozen? ⟨cb, i, none⟩ = false := fun i hi => by simp [World.frozen?, hnew]; omega
  have HN2 := Lib.hid hnew; clear hnew
  have HC0 := Lib.hid hcell0; clear hcell0
  have HFR := Lib.hid hfr; clear hfr
  clear hm1 hm2 hm3
  have hflip : ∀ i, i < n → (flip L kk).getD i 0 = if i = j then UInt8.ofNat xv else L.getD i 0 := fun i hi => by
    rw [flip_getD _ _ _ (by rw [← HN.out, ← HJ.out]; exact hjn), ← HJ.out, ← HM.out, ← HC.out, ← HV.out]
  have hrow0 : RowIs n cb (fun i => (L.getD i 0).toNat) w2.drew := fun i hi => ⟨HC0.out i hi, HFR.out i hi⟩
  have HF := Lib.hid hflip; clear hflip
  clear hcj
  go_wp2_with (fail)
  refine wp_region_list (by kernel_rfl) [(some 51, []), (some 52, []), (some 53, [1]), (some 54, []), (some 55, []), (some 56, [4]), (some 57, [3, 5]), (some 58, [6]), (some 59, []), (some 60, [8]), (some 61, [9]), (some 62, [7, 10]), (some 63, [0, 2, 0, 1, 2, 3, 4, 5, 6, 7, 8, 9, 10, 11]), (none, [12, 11, 0, 1, 2, 3, 4, 5, 6, 7, 8, 9, 10, 11])] [13] 102 14 (Foot (fun i => i = cb)) (fun i v w => match i with | 0 => v = .slice (some ⟨cb, 0, none⟩) n cap | 1 => v = .int .i64 (kk : Nat) | 2 => v = .int .i64 (j : Nat) | 3 => v = .slice (some ⟨cb, 0, none⟩) n cap | 4 => v = .int .i64 (kk : Nat) | 5 => v = .int .i64 (j : Nat) | 6 => v = .pointer (some ⟨cb, j, none⟩) | 7 => v = .int .u8 (c.toNat : Nat) | 8 => v = .int .i64 (kk : Nat) | 9 => v = .int .i64 (m : Nat) | 10 => v = .int .u8 (IntKind.u8.wrap (2 ^ m)) | 11 => v = .int .u8 (xv : Nat) | 12 => v = .pointer (some ⟨cb, j, none⟩) | 13 => True | _ => True) (St5 (RowIs n cb (fun i => (L.getD i 0).toNat)) (RowIs n cb (fun i => ((flip L kk).getD i 0).toNat)) (RowIs n cb (fun i => ((flip L kk).getD i 0).toNat)) (RowIs n cb (fun i => ((flip L kk).getD i 0).toNat)) (RowIs n cb (fun i => ((flip L kk).getD i 0).toNat))) (by kernel_rfl) rfl rfl (by kernel_rfl) (Foot.refl _) (fun _ _ _ => Foot.trans) ?Hst ?hst ?howed ?hfin
  case Hst =>
    intro i v w w2 _ hH _
    rcases i with _ | _ | _ | _ | _ | _ | _ | _ | _ | _ | _ | _ | _ | _ | _ <;> exact hH
  case hst =>
    exact hrow0
  case howed =>
    refine owed_cons (owed_cons (owed_cons (owed_cons (owed_cons (owed_cons (owed_cons (owed_cons (owed_cons (owed_cons (owed_cons (owed_cons (owed_cons (owed_cons (owed_nil _) ?_) ?_) ?_) ?_) ?_) ?_) ?_) ?_) ?_) ?_) ?_) ?_) ?_) ?_
    · intro a w vs k K hR hp hi hS s1 s2 s3 hK
      have e15 : a.tmps.getD 15 undef = .slice (some ⟨cb, 0, none⟩) n cap := old_of hi (by kernel_rfl) rfl
      have e15_ := e15; rw [Array.getD_eq_getD_getElem?] at e15_
      clear hp hi s1 s2 s3
      refine wpOp_of rfl rfl ?_
      go_simp
      first | exact hK _ _ rfl (Foot.refl _ _) hS | (rw [ej]; exact hK _ _ rfl (Foot.refl _ _) hS) | (rw [em]; exact hK _ _ rfl (Foot.refl _ _) hS)
    · intro a w vs k K hR hp hi hS s1 s2 s3 hK
      have e14 : a.tmps.getD 14 undef = .int .i64 (kk : Nat) := old_of hi (by kernel_rfl) rfl
      have e14_ := e14; rw [Array.getD_eq_getD_getElem?] at e14_
      clear hp hi s1 s2 s3
      refine wpOp_of rfl rfl ?_
      go_simp
      first | exact hK _ _ rfl (Foot.refl _ _) hS | (rw [ej]; exact hK _ _ rfl (Foot.refl _ _) hS) | (rw [em]; exact hK _ _ rfl (Foot.refl _ _) hS)
    · intro a w vs k K hR hp hi hS s1 s2 s3 hK
      have e52 : a.tmps.getD 52 undef = .int .i64 (kk : Nat) := ((hp 1 (by decide)).2 52 rfl).trans (hp 1 (by decide)).1
      have e52_ := e52; rw [Array.getD_eq_getD_getElem?] at e52_
      clear hp hi s1 s2 s3
      refine wpOp_of rfl rfl ?_
      go_simp
      first | exact hK _ _ rfl (Foot.refl _ _) hS | (rw [ej]; exact hK _ _ rfl (Foot.refl _ _) hS) | (rw [em]; exact hK _ _ rfl (Foot.refl _ _) hS)
    · intro a w vs k K hR hp hi hS s1 s2 s3 hK
      have e15 : a.tmps.getD 15 undef = .slice (some ⟨cb, 0, none⟩) n cap := old_of hi (by kernel_rfl) rfl
      have e15_ := e15; rw [Array.getD_eq_getD_getElem?] at e15_
      clear hp hi s1 s2 s3
      refine wpOp_of rfl rfl ?_
      go_simp
      first | exact hK _ _ rfl (Foot.refl _ _) hS | (rw [ej]; exact hK _ _ rfl (Foot.refl _ _) hS) | (rw [em]; exact hK _ _ rfl (Foot.refl _ _) hS)
    · intro a w vs k K hR hp hi hS s1 s2 s3 hK
      have e14 : a.tmps.getD 14 undef = .int .i64 (kk : Nat) := old_of hi (by kernel_rfl) rfl
      have e14_ := e14; rw [Array.getD_eq_getD_getElem?] at e14_
      clear hp hi s1 s2 s3
      refine wpOp_of rfl rfl ?_
      go_simp
      first | exact hK _ _ rfl (Foot.refl _ _) hS | (rw [ej]; exact hK _ _ rfl (Foot.refl _ _) hS) | (rw [em]; exact hK _ _ rfl (Foot.refl _ _) hS)
    · intro a w vs k K hR hp hi hS s1 s2 s3 hK
      have e55 : a.tmps.getD 55 undef = .int .i64 (kk : Nat) := ((hp 4 (by decide)).2 55 rfl).trans (hp 4 (by decide)).1
      have e55_ := e55; rw [Array.getD_eq_getD_getElem?] at e55_
      clear hp hi s1 s2 s3
      refine wpOp_of rfl rfl ?_
      go_simp
      first | exact hK _ _ rfl (Foot.refl _ _) hS | (rw [ej]; exact hK _ _ rfl (Foot.refl _ _) hS) | (rw [em]; exact hK _ _ rfl (Foot.refl _ _) hS)
    · intro a w vs k K hR hp hi hS s1 s2 s3 hK
      have e54 : a.tmps.getD 54 undef = .slice (some ⟨cb, 0, none⟩) n cap := ((hp 3 (by decide)).2 54 rfl).trans (hp 3 (by decide)).1
      have e56 : a.tmps.getD 56 undef = .int .i64 (j : Nat) := ((hp 5 (by decide)).2 56 rfl).trans (hp 5 (by decide)).1
      have e54_ := e54; rw [Array.getD_eq_getD_getElem?] at e54_
      have e56_ := e56; rw [Array.getD_eq_getD_getElem?] at e56_
      clear hp hi s1 s2 s3
      have j0 : (0 : Int) ≤ (j : Int) := by omega
      have j1 : (j : Int) < n := by omega
      refine wpOp_of rfl rfl ?_
      go_simp
      first | exact hK _ _ rfl (Foot.refl _ _) hS | (rw [ej]; exact hK _ _ rfl (Foot.refl _ _) hS) | (rw [em]; exact hK _ _ rfl (Foot.refl _ _) hS)
    · intro a w vs k K hR hp hi hS s1 s2 s3 hK
      have e57 : a.tmps.getD 57 undef = .pointer (some ⟨cb, j, none⟩) := ((hp 6 (by decide)).2 57 rfl).trans (hp 6 (by decide)).1
      obtain rfl : k = 0 := Nat.le_zero.1 (s3 0 (by decide) (by decide))
      have hc7 := (hS j hjn).1
      simp only [← HC.out] at hc7
      have e57_ := e57; rw [Array.getD_eq_getD_getElem?] at e57_
      clear hp hi s1 s2 s3
      refine wpOp_of rfl rfl ?_
      go_simp
      exact hK _ _ rfl (Foot.refl _ _) hS
    · intro a w vs k K hR hp hi hS s1 s2 s3 hK
      have e14 : a.tmps.getD 14 undef = .int .i64 (kk : Nat) := old_of hi (by kernel_rfl) rfl
      have e14_ := e14; rw [Array.getD_eq_getD_getElem?] at e14_
      clear hp hi s1 s2 s3
      refine wpOp_of rfl rfl ?_
      go_simp
      first | exact hK _ _ rfl (Foot.refl _ _) hS | (rw [ej]; exact hK _ _ rfl (Foot.refl _ _) hS) | (rw [em]; exact hK _ _ rfl (Foot.refl _ _) hS)
    · intro a w vs k K hR hp hi hS s1 s2 s3 hK
      have e59 : a.tmps.getD 59 undef = .int .i64 (kk : Nat) := ((hp 8 (by decide)).2 59 rfl).trans (hp 8 (by decide)).1
      have e59_ := e59; rw [Array.getD_eq_getD_getElem?] at e59_
      clear hp hi s1 s2 s3
      refine wpOp_of rfl rfl ?_
      go_simp
      first | exact hK _ _ rfl (Foot.refl _ _) hS | (rw [ej]; exact hK _ _ rfl (Foot.refl _ _) hS) | (rw [em]; exact hK _ _ rfl (Foot.refl _ _) hS)
    · intro a w vs k K hR hp hi hS s1 s2 s3 hK
      have e60 : a.tmps.getD 60 undef = .int .i64 (m : Nat) := ((hp 9 (by decide)).2 60 rfl).trans (hp 9 (by decide)).1
      have e60_ := e60; rw [Array.getD_eq_getD_getElem?] at e60_
      clear hp hi s1 s2 s3
      have m0 : (0 : Int) ≤ (m : Int) := by omega
      have m8 : (m : Int) ≤ 8 := by omega
      refine wpOp_of rfl rfl ?_
      go_simp
      first | exact hK _ _ rfl (Foot.refl _ _) hS | (rw [ej]; exact hK _ _ rfl (Foot.refl _ _) hS) | (rw [em]; exact hK _ _ rfl (Foot.refl _ _) hS)
    · intro a w vs k K hR hp hi hS s1 s2 s3 hK
      have e58 : a.tmps.getD 58 undef = .int .u8 (c.toNat : Nat) := ((hp 7 (by decide)).2 58 rfl).trans (hp 7 (by decide)).1
      have e61 : a.tmps.getD 61 undef = .int .u8 (IntKind.u8.wrap (2 ^ m)) := ((hp 10 (by decide)).2 61 rfl).trans (hp 10 (by decide)).1
      have e58_ := e58; rw [Array.getD_eq_getD_getElem?] at e58_
      have e61_ := e61; rw [Array.getD_eq_getD_getElem?] at e61_
      clear hp hi s1 s2 s3
      refine wpOp_of rfl rfl ?_
      go_simp
      first | exact hK _ _ rfl (Foot.refl _ _) hS | (rw [ej]; exact hK _ _ rfl (Foot.refl _ _) hS) | (rw [em]; exact hK _ _ rfl (Foot.refl _ _) hS)
    · intro a w vs k K hR hp hi hS s1 s2 s3 hK
      have e51 : a.tmps.getD 51 undef = .slice (some ⟨cb, 0, none⟩) n cap := ((hp 0 (by decide)).2 51 rfl).trans (hp 0 (by decide)).1
      have e53 : a.tmps.getD 53 undef = .int .i64 (j : Nat) := ((hp 2 (by decide)).2 53 rfl).trans (hp 2 (by decide)).1
      have e51_ := e51; rw [Array.getD_eq_getD_getElem?] at e51_
      have e53_ := e53; rw [Array.getD_eq_getD_getElem?] at e53_
      clear hp hi s1 s2 s3
      have j0 : (0 : Int) ≤ (j : Int) := by omega
      have j1 : (j : Int) < n := by omega
      refine wpOp_of rfl rfl ?_
      go_simp
      first | exact hK _ _ rfl (Foot.refl _ _) hS | (rw [ej]; exact hK _ _ rfl (Foot.refl _ _) hS) | (rw [em]; exact hK _ _ rfl (Foot.refl _ _) hS)
    · intro a w vs k K hR hp hi hS s1 s2 s3 hK
      have e63 : a.tmps.getD 63 undef = .pointer (some ⟨cb, j, none⟩) := ((hp 12 (by decide)).2 63 rfl).trans (hp 12 (by decide)).1
      have e62 : a.tmps.getD 62 undef = .int .u8 (xv : Nat) := ((hp 11 (by decide)).2 62 rfl).trans (hp 11 (by decide)).1
      obtain rfl := s1 0 (by decide) rfl
      have e63_ := e63; rw [Array.getD_eq_getD_getElem?] at e63_
      have e62_ := e62; rw [Array.getD_eq_getD_getElem?] at e62_
      clear hp hi s1 s2 s3
      have hc13 := (hS j hjn).1
      have hf13 := (hS j hjn).2
      simp only at hc13
      refine wpOp_of rfl rfl ?_
      go_simp
      exact hK undef _ trivial (Foot.setCell _ _ _ rfl) (RowIs.set hS j xv hjn (by show ((flip L kk).getD j 0).toNat = xv; rw [HF.out j hjn, if_pos rfl, UInt8.toNat_ofNat']; omega) (fun i hi hij => by show ((flip L kk).getD i 0).toNat = (L.getD i 0).toNat; rw [HF.out i hi, if_neg hij]))
  case hfin =>
    intro vs w5 hR5 hH hS5
    have q0 : vs 0 = .slice (some ⟨cb, 0, none⟩) n cap := hH 0 (by decide)
    have q1 : vs 1 = .int .i64 (kk : Nat) := hH 1 (by decide)
    have q2 : vs 2 = .int .i64 (j : Nat) := hH 2 (by decide)
    have q3 : vs 3 = .slice (some ⟨cb, 0, none⟩) n cap := hH 3 (by decide)
    have q4 : vs 4 = .int .i64 (kk : Nat) := hH 4 (by decide)
    have q5 : vs 5 = .int .i64 (j : Nat) := hH 5 (by decide)
    have q6 : vs 6 = .pointer (some ⟨cb, j, none⟩) := hH 6 (by decide)
    have q7 : vs 7 = .int .u8 (c.toNat : Nat) := hH 7 (by decide)
    have q8 : vs 8 = .int .i64 (kk : Nat) := hH 8 (by decide)
    have q9 : vs 9 = .int .i64 (m : Nat) := hH 9 (by decide)
    have q10 : vs 10 = .int .u8 (IntKind.u8.wrap (2 ^ m)) := hH 10 (by decide)
    have q11 : vs 11 = .int .u8 (xv : Nat) := hH 11 (by decide)
    have q12 : vs 12 = .pointer (some ⟨cb, j, none⟩) := hH 12 (by decide)
    clear hH
    simp only [putL, Act.put, List.setIfInBounds_toArray, List.set_cons_zero, List.set_cons_succ, q0, q1, q2, q3, q4, q5, q6, q7, q8, q9, q10, q11, q12]
    clear q0 q1 q2 q3 q4 q5 q6 q7 q8 q9 q10 q11 q12
    have hP := fun w => parse_any 17 src dst (str (flip L kk)) w hsrc hdst (by rw [str_size]; unfold flip; rw [List.length_set, ← HN.out]; unfold maxLen; omega)
    have HP := Lib.hid hP; clear hP
    have hrow : RowIs n cb (fun i => ((flip L kk).getD i 0).toNat) w5 := hS5
    have hsz5 := hR5.size
    have hsz5' : cb + 1 ≤ w5.heap.size := by rw [← hsz2]; exact hsz5
    have hbel5 : Below w.heap.size w w5 := by
      have h1 : Below w.heap.size w w1 := ((Below.refl _ _).alloc (Nat.le_refl _) _).trans (hf1.mono (by simp))
      have h2 := h1.size
      rw [HCB.out] at h2
      exact ⟨hR5.os.trans (hos.1.trans h1.os), hR5.tape.trans (hos.2.1.trans h1.tape), hR5.output.trans (hos.2.2.trans h1.output), by omega, fun i hi => ((hR5.block i (by show i < w2.heap.size; omega) (by omega)).trans (hold i (by omega))).trans (h1.block i hi)⟩
    have HB5 := Lib.hid hbel5; clear hbel5 hR5 hS5 hsz5 hf1 hold hos hcs
    have hconv := run_convert_bytes_arg (P := Try.prog) w5 35 5 Try.underlying35 Try.underlying5 cb 0 n cap ((flip L kk).map fun c => (c.toNat : Int)) (by rw [List.length_map]; unfold flip; rw [List.length_set, ← HN.out]) (fun i hi => by
      rw [Nat.zero_add, (hrow i hi).1]
      simp only [List.getD_eq_getElem?_getD, List.getElem?_map]
      cases (flip L kk)[i]? <;> rfl) 9 Try.underlying9
    have hstr : strOfNums ((flip L kk).map fun c => (c.toNat : Int)) = str (flip L kk) := by
      unfold strOfNums str
      rw [List.map_map]
      congr 2
      simp [Function.comp_def]
    rw [hstr] at hconv
    have HCV := Lib.hid hconv; clear hconv hstr
    have c6 := (hrow 6 (by omega)).1
    have c7 := (hrow 7 (by omega)).1
    have HRW := Lib.hid hrow; clear hrow
    go_wp2_with (fail)
    rw [HCV.out]
    simp only [Result.andThen]
    rw [Oper.upon_value]
    go_wp2_with (fail)
    refine (HP.out _).mono ?_
    rintro e w6 ⟨rfl, hf6⟩
    have k6 : w6.cell? ⟨cb, 6, none⟩ = some (.int .u8 (((flip L kk).getD 6 0).toNat : Nat)) := (World.cell?_of_block (a := ⟨cb, 6, none⟩) (hf6.block cb (by omega))).trans c6
    have k7 : w6.cell? ⟨cb, 7, none⟩ = some (.int .u8 (((flip L kk).getD 7 0).toNat : Nat)) := (World.cell?_of_block (a := ⟨cb, 7, none⟩) (hf6.block cb (by omega))).trans c7
    have hbel6 : Below w.heap.size w w6 := HB5.out.trans (hf6.mono HB5.out.size)
    have hsz6 : cb < w6.heap.size := by have := hf6.size; omega
    have HB6 := Lib.hid hbel6; clear hbel6 HB5 HP HCV hf6 c6 c7
    by_cases hcode : parseCode 17 src dst (str (flip L kk)) = 0
    · obtain ⟨hp17, e6, e7⟩ := HPL.out.resolve_left (fun h => h hcode)
      rw [e6] at k6
      rw [e7] at k7
      have i6 : (6 : Int) < n := by omega
      have i7 : (7 : Int) < n := by omega
      rw [hcode]
      have HC1 := Lib.hid hcode; clear hcode e6 e7 hp17
      generalize parseSeg 17 src dst (str (flip L kk)) = sg at *
      unfold Seg.cells
      go_wp2_with (go_at_call 10; (with_reducible refine (awake6 _).mono ?_); rintro e w7 ⟨rfl, hf7⟩)
      go_ret
      exact ⟨rfl, (HB6.out.alloc HB6.out.size _).trans (hf7.mono (by have := HB6.out.size; simp; omega))⟩
    · have hsg : parseSeg 17 src dst (str (flip L kk)) = zeroSeg := by unfold parseSeg; rw [if_neg hcode]
      rw [hsg]
      obtain ⟨n1, n2⟩ := codeNe hcode
      generalize parseCode 17 src dst (str (flip L kk)) = code at *
      unfold Seg.cells zeroSeg
      have HC1 := Lib.hid hcode; clear hcode hsg k6 k7
      go_wp2_with (go_at_call 10; (with_reducible refine (awake6 _).mono ?_); rintro e w7 ⟨rfl, hf7⟩)
      go_ret
      exact ⟨rfl, (HB6.out.alloc HB6.out.size _).trans (hf7.mono (by have := HB6.out.size; simp; omega))⟩

set_option maxHeartbeats 4000000 in
set_option maxRecDepth 100000 in
theorem sbent_yes_false (src dst : Nat) (sport dport seq ack flags window : Int) (data : ByteArray) (k : Nat) (w : World) (hk : k < 65536) (h : data.size ≤ 1000) (hsrc : src < 4294967296) (hdst : dst < 4294967296) (L : List UInt8)
    (hE : ∀ w, Calls Try.prog 11 #[.int .i64 6, .int .u32 src, .int .u32 dst, .agg #[.int .i64 sport, .int .i64 dport, .int .u32 seq, .int .u32 ack, .int .i64 flags, .int .i64 window, .string data]] w fun e w' => e = .returned (.tuple #[.string (str L), .int .i64 0]) ∧ Below w.heap.size w w')
    (hl1 : 8 ≤ L.length) (hl2 : L.length ≤ 2000) (hplain : BentOk 6 src dst L (k % (8 * L.length))) :
    Calls Try.prog 4 #[.bool false, .int .u32 src, .int .u32 dst, .agg #[.int .i64 sport, .int .i64 dport, .int .u32 seq, .int .u32 ack, .int .i64 flags, .int .i64 window, .string data], .int .u16 k] w (TruePost w) := by
  have E1 := Lib.hid hE; clear hE
  have h1 : (data.size : Int) ≤ 1000 := by omega
  have hz : (str L).size = L.length := str_size L
  have hne : (str L).toList.isEmpty = false := str_ne L (by omega)
  obtain ⟨n, hn⟩ : ∃ n, n = L.length := ⟨_, rfl⟩
  rw [← hn] at hz hl1 hl2
  have HN := Lib.hid hn; clear hn
  have hm1 : IntKind.i64.wrap (8 * (n : Int)) = 8 * n := IntWalk.i64_in _ (by omega)
  have hm2 : ¬ (8 * (n : Int)) = 0 := by omega
  have hm3 : (8 * (n : Int) == 0) = false := by simp; omega
  have HH := Lib.hid h; clear h
  go_enter Try.func4, Try.ntmps4
  go_wp2_with (go_at_call 11; (with_reducible refine (E1.out _).mono ?_); rintro e w1 ⟨rfl, hf1⟩)
  rw [Lib.run_convert_string_bytes (P := Try.prog) w1 9 35 5 (str L) Try.underlying9 Try.underlying35 Try.underlying5]
  simp only [Result.andThen]
  rw [Oper.upon_value]
  have hnew := Lib.bytesWorld_at_new w1 5 (str L)
  have hold : ∀ i, i < w1.heap.size → (Lib.bytesWorld w1 5 (str L)).heap[i]? = w1.heap[i]? := fun i hi => Lib.bytesWorld_at_old w1 5 (str L) i hi
  have hsz2 := Lib.bytesWorld_size w1 5 (str L)
  have hcell0 : ∀ i, i < n → (Lib.bytesWorld w1 5 (str L)).cell? ⟨w1.heap.size, i, none⟩ = some (.int .u8 (L.getD i 0).toNat) := fun i hi => by
    have := Lib.bytesWorld_cell w1 5 (str L) i (by rw [hz]; exact hi)
    rwa [str_toList] at this
  have hcs : n ≤ (Lib.bytesCells w1 5 (str L)).size := by
    have : (str L).data.size = n := hz
    unfold Lib.bytesCells
    simp only [Array.size_append, Array.size_map, this]
    omega
  have hos : (Lib.bytesWorld w1 5 (str L)).os = w1.os ∧ (Lib.bytesWorld w1 5 (str L)).tape = w1.tape ∧ (Lib.bytesWorld w1 5 (str L)).output = w1.output := by
    unfold Lib.bytesWorld World.freeze
    simp only [Nat.one_ne_zero, if_false]
    exact ⟨rfl, rfl, rfl⟩
  generalize Lib.bytesCells w1 5 (str L) = cs at *
  generalize Lib.bytesWorld w1 5 (str L) = w2 at *
  obtain ⟨kk, hkk⟩ : ∃ kk : Nat, kk = k % (8 * n) := ⟨_, rfl⟩
  have ekk : (k : Int) % (8 * (n : Int)) = (kk : Int) := by rw [hkk]; simp
  rw [ekk]
  have hkk2 : kk < 8 * n := by rw [hkk]; exact Nat.mod_lt _ (by omega)
  rw [← HN.out, ← hkk] at hplain
  have HK := Lib.hid hkk; clear hkk ekk
  have HPL := Lib.hid hplain; clear hplain
  generalize grownCap w1 (str L).size 0 5 = cap
  rw [hz]
  generalize hcb : w1.heap.size = cb at *
  have HCB := Lib.hid hcb; clear hcb
  obtain ⟨j, hj⟩ : ∃ j, j = kk / 8 := ⟨_, rfl⟩
  obtain ⟨m, hm⟩ : ∃ m, m = kk % 8 := ⟨_, rfl⟩
  have hjn : j < n := by omega
  have hm8 : m < 8 := by omega
  have ej : (kk : Int) / 8 = (j : Int) := by omega
  have em : (kk : Int) % 8 = (m : Int) := by omega
  have ew : IntKind.i64.wrap (j : Int) = (j : Int) := IntWalk.i64_in _ (by omega)
  have et : (kk : Int).tmod 8 = (m : Int) := by rw [Int.tmod_eq_emod_of_nonneg (by omega)]; exact em
  have HJ := Lib.hid hj; clear hj
  have HM := Lib.hid hm; clear hm
  obtain ⟨c, hc⟩ : ∃ c, c = L.getD j 0 := ⟨_, rfl⟩
  have hcj := hcell0 j hjn
  rw [← hc] at hcj
  have HC := Lib.hid hc; clear hc
  have hc256 := c.toNat_lt
  obtain ⟨xv, hv⟩ : ∃ xv : Nat, xv = c.toNat ^^^ 2 ^ m := ⟨_, rfl⟩
  have hv256 : xv < 256 := by rw [hv]; exact xor_lt _ _ hc256 hm8
  have exor : bits .xor .u8 (c.toNat : Int) (IntKind.u8.wrap (2 ^ m)) = (xv : Int) := by
    rw [wrap_pow m hm8, u8_xor_nat _ _ hc256 (pow_lt8 m hm8), ← hv]
  have HV := Lib.hid hv; clear hv
  have hfr : ∀ i, i < n → w2.frozen? ⟨cb, i, none⟩ = false := fun i hi => by simp [World.frozen?, hnew]; omega
  have HN2 := Lib.hid hnew; clear hnew
  have HC0 := Lib.hid hcell0; clear hcell0
  have HFR := Lib.hid hfr; clear hfr
  clear hm1 hm2 hm3
  have hflip : ∀ i, i < n → (flip L kk).getD i 0 = if i = j then UInt8.ofNat xv else L.getD i 0 := fun i hi => by
    rw [flip_getD _ _ _ (by rw [← HN.out, ← HJ.out]; exact hjn), ← HJ.out, ← HM.out, ← HC.out, ← HV.out]
  have hrow0 : RowIs n cb (fun i => (L.getD i 0).toNat) w2.drew := fun i hi => ⟨HC0.out i hi, HFR.out i hi⟩
  have HF := Lib.hid hflip; clear hflip
  clear hcj
  go_wp2_with (fail)
  refine wp_region_list (by kernel_rfl) [(some 51, []), (some 52, []), (some 53, [1]), (some 54, []), (some 55, []), (some 56, [4]), (some 57, [3, 5]), (some 58, [6]), (some 59, []), (some 60, [8]), (some 61, [9]), (some 62, [7, 10]), (some 63, [0, 2, 0, 1, 2, 3, 4, 5, 6, 7, 8, 9, 10, 11]), (none, [12, 11, 0, 1, 2, 3, 4, 5, 6, 7, 8, 9, 10, 11])] [13] 102 14 (Foot (fun i => i = cb)) (fun i v w => match i with | 0 => v = .slice (some ⟨cb, 0, none⟩) n cap | 1 => v = .int .i64 (kk : Nat) | 2 => v = .int .i64 (j : Nat) | 3 => v = .slice (some ⟨cb, 0, none⟩) n cap | 4 => v = .int .i64 (kk : Nat) | 5 => v = .int .i64 (j : Nat) | 6 => v = .pointer (some ⟨cb, j, none⟩) | 7 => v = .int .u8 (c.toNat : Nat) | 8 => v = .int .i64 (kk : Nat) | 9 => v = .int .i64 (m : Nat) | 10 => v = .int .u8 (IntKind.u8.wrap (2 ^ m)) | 11 => v = .int .u8 (xv : Nat) | 12 => v = .pointer (some ⟨cb, j, none⟩) | 13 => True | _ => True) (St5 (RowIs n cb (fun i => (L.getD i 0).toNat)) (RowIs n cb (fun i => ((flip L kk).getD i 0).toNat)) (RowIs n cb (fun i => ((flip L kk).getD i 0).toNat)) (RowIs n cb (fun i => ((flip L kk).getD i 0).toNat)) (RowIs n cb (fun i => ((flip L kk).getD i 0).toNat))) (by kernel_rfl) rfl rfl (by kernel_rfl) (Foot.refl _) (fun _ _ _ => Foot.trans) ?Hst ?hst ?howed ?hfin
  case Hst =>
    intro i v w w2 _ hH _
    rcases i with _ | _ | _ | _ | _ | _ | _ | _ | _ | _ | _ | _ | _ | _ | _ <;> exact hH
  case hst =>
    exact hrow0
  case howed =>
    refine owed_cons (owed_cons (owed_cons (owed_cons (owed_cons (owed_cons (owed_cons (owed_cons (owed_cons (owed_cons (owed_cons (owed_cons (owed_cons (owed_cons (owed_nil _) ?_) ?_) ?_) ?_) ?_) ?_) ?_) ?_) ?_) ?_) ?_) ?_) ?_) ?_
    · intro a w vs k K hR hp hi hS s1 s2 s3 hK
      have e15 : a.tmps.getD 15 undef = .slice (some ⟨cb, 0, none⟩) n cap := old_of hi (by kernel_rfl) rfl
      have e15_ := e15; rw [Array.getD_eq_getD_getElem?] at e15_
      clear hp hi s1 s2 s3
      refine wpOp_of rfl rfl ?_
      go_simp
      first | exact hK _ _ rfl (Foot.refl _ _) hS | (rw [ej]; exact hK _ _ rfl (Foot.refl _ _) hS) | (rw [em]; exact hK _ _ rfl (Foot.refl _ _) hS)
    · intro a w vs k K hR hp hi hS s1 s2 s3 hK
      have e14 : a.tmps.getD 14 undef = .int .i64 (kk : Nat) := old_of hi (by kernel_rfl) rfl
      have e14_ := e14; rw [Array.getD_eq_getD_getElem?] at e14_
      clear hp hi s1 s2 s3
      refine wpOp_of rfl rfl ?_
      go_simp
      first | exact hK _ _ rfl (Foot.refl _ _) hS | (rw [ej]; exact hK _ _ rfl (Foot.refl _ _) hS) | (rw [em]; exact hK _ _ rfl (Foot.refl _ _) hS)
    · intro a w vs k K hR hp hi hS s1 s2 s3 hK
      have e52 : a.tmps.getD 52 undef = .int .i64 (kk : Nat) := ((hp 1 (by decide)).2 52 rfl).trans (hp 1 (by decide)).1
      have e52_ := e52; rw [Array.getD_eq_getD_getElem?] at e52_
      clear hp hi s1 s2 s3
      refine wpOp_of rfl rfl ?_
      go_simp
      first | exact hK _ _ rfl (Foot.refl _ _) hS | (rw [ej]; exact hK _ _ rfl (Foot.refl _ _) hS) | (rw [em]; exact hK _ _ rfl (Foot.refl _ _) hS)
    · intro a w vs k K hR hp hi hS s1 s2 s3 hK
      have e15 : a.tmps.getD 15 undef = .slice (some ⟨cb, 0, none⟩) n cap := old_of hi (by kernel_rfl) rfl
      have e15_ := e15; rw [Array.getD_eq_getD_getElem?] at e15_
      clear hp hi s1 s2 s3
      refine wpOp_of rfl rfl ?_
      go_simp
      first | exact hK _ _ rfl (Foot.refl _ _) hS | (rw [ej]; exact hK _ _ rfl (Foot.refl _ _) hS) | (rw [em]; exact hK _ _ rfl (Foot.refl _ _) hS)
    · intro a w vs k K hR hp hi hS s1 s2 s3 hK
      have e14 : a.tmps.getD 14 undef = .int .i64 (kk : Nat) := old_of hi (by kernel_rfl) rfl
      have e14_ := e14; rw [Array.getD_eq_getD_getElem?] at e14_
      clear hp hi s1 s2 s3
      refine wpOp_of rfl rfl ?_
      go_simp
      first | exact hK _ _ rfl (Foot.refl _ _) hS | (rw [ej]; exact hK _ _ rfl (Foot.refl _ _) hS) | (rw [em]; exact hK _ _ rfl (Foot.refl _ _) hS)
    · intro a w vs k K hR hp hi hS s1 s2 s3 hK
      have e55 : a.tmps.getD 55 undef = .int .i64 (kk : Nat) := ((hp 4 (by decide)).2 55 rfl).trans (hp 4 (by decide)).1
      have e55_ := e55; rw [Array.getD_eq_getD_getElem?] at e55_
      clear hp hi s1 s2 s3
      refine wpOp_of rfl rfl ?_
      go_simp
      first | exact hK _ _ rfl (Foot.refl _ _) hS | (rw [ej]; exact hK _ _ rfl (Foot.refl _ _) hS) | (rw [em]; exact hK _ _ rfl (Foot.refl _ _) hS)
    · intro a w vs k K hR hp hi hS s1 s2 s3 hK
      have e54 : a.tmps.getD 54 undef = .slice (some ⟨cb, 0, none⟩) n cap := ((hp 3 (by decide)).2 54 rfl).trans (hp 3 (by decide)).1
      have e56 : a.tmps.getD 56 undef = .int .i64 (j : Nat) := ((hp 5 (by decide)).2 56 rfl).trans (hp 5 (by decide)).1
      have e54_ := e54; rw [Array.getD_eq_getD_getElem?] at e54_
      have e56_ := e56; rw [Array.getD_eq_getD_getElem?] at e56_
      clear hp hi s1 s2 s3
      have j0 : (0 : Int) ≤ (j : Int) := by omega
      have j1 : (j : Int) < n := by omega
      refine wpOp_of rfl rfl ?_
      go_simp
      first | exact hK _ _ rfl (Foot.refl _ _) hS | (rw [ej]; exact hK _ _ rfl (Foot.refl _ _) hS) | (rw [em]; exact hK _ _ rfl (Foot.refl _ _) hS)
    · intro a w vs k K hR hp hi hS s1 s2 s3 hK
      have e57 : a.tmps.getD 57 undef = .pointer (some ⟨cb, j, none⟩) := ((hp 6 (by decide)).2 57 rfl).trans (hp 6 (by decide)).1
      obtain rfl : k = 0 := Nat.le_zero.1 (s3 0 (by decide) (by decide))
      have hc7 := (hS j hjn).1
      simp only [← HC.out] at hc7
      have e57_ := e57; rw [Array.getD_eq_getD_getElem?] at e57_
      clear hp hi s1 s2 s3
      refine wpOp_of rfl rfl ?_
      go_simp
      exact hK _ _ rfl (Foot.refl _ _) hS
    · intro a w vs k K hR hp hi hS s1 s2 s3 hK
      have e14 : a.tmps.getD 14 undef = .int .i64 (kk : Nat) := old_of hi (by kernel_rfl) rfl
      have e14_ := e14; rw [Array.getD_eq_getD_getElem?] at e14_
      clear hp hi s1 s2 s3
      refine wpOp_of rfl rfl ?_
      go_simp
      first | exact hK _ _ rfl (Foot.refl _ _) hS | (rw [ej]; exact hK _ _ rfl (Foot.refl _ _) hS) | (rw [em]; exact hK _ _ rfl (Foot.refl _ _) hS)
    · intro a w vs k K hR hp hi hS s1 s2 s3 hK
      have e59 : a.tmps.getD 59 undef = .int .i64 (kk : Nat) := ((hp 8 (by decide)).2 59 rfl).trans (hp 8 (by decide)).1
      have e59_ := e59; rw [Array.getD_eq_getD_getElem?] at e59_
      clear hp hi s1 s2 s3
      refine wpOp_of rfl rfl ?_
      go_simp
      first | exact hK _ _ rfl (Foot.refl _ _) hS | (rw [ej]; exact hK _ _ rfl (Foot.refl _ _) hS) | (rw [em]; exact hK _ _ rfl (Foot.refl _ _) hS)
    · intro a w vs k K hR hp hi hS s1 s2 s3 hK
      have e60 : a.tmps.getD 60 undef = .int .i64 (m : Nat) := ((hp 9 (by decide)).2 60 rfl).trans (hp 9 (by decide)).1
      have e60_ := e60; rw [Array.getD_eq_getD_getElem?] at e60_
      clear hp hi s1 s2 s3
      have m0 : (0 : Int) ≤ (m : Int) := by omega
      have m8 : (m : Int) ≤ 8 := by omega
      refine wpOp_of rfl rfl ?_
      go_simp
      first | exact hK _ _ rfl (Foot.refl _ _) hS | (rw [ej]; exact hK _ _ rfl (Foot.refl _ _) hS) | (rw [em]; exact hK _ _ rfl (Foot.refl _ _) hS)
    · intro a w vs k K hR hp hi hS s1 s2 s3 hK
      have e58 : a.tmps.getD 58 undef = .int .u8 (c.toNat : Nat) := ((hp 7 (by decide)).2 58 rfl).trans (hp 7 (by decide)).1
      have e61 : a.tmps.getD 61 undef = .int .u8 (IntKind.u8.wrap (2 ^ m)) := ((hp 10 (by decide)).2 61 rfl).trans (hp 10 (by decide)).1
      have e58_ := e58; rw [Array.getD_eq_getD_getElem?] at e58_
      have e61_ := e61; rw [Array.getD_eq_getD_getElem?] at e61_
      clear hp hi s1 s2 s3
      refine wpOp_of rfl rfl ?_
      go_simp
      first | exact hK _ _ rfl (Foot.refl _ _) hS | (rw [ej]; exact hK _ _ rfl (Foot.refl _ _) hS) | (rw [em]; exact hK _ _ rfl (Foot.refl _ _) hS)
    · intro a w vs k K hR hp hi hS s1 s2 s3 hK
      have e51 : a.tmps.getD 51 undef = .slice (some ⟨cb, 0, none⟩) n cap := ((hp 0 (by decide)).2 51 rfl).trans (hp 0 (by decide)).1
      have e53 : a.tmps.getD 53 undef = .int .i64 (j : Nat) := ((hp 2 (by decide)).2 53 rfl).trans (hp 2 (by decide)).1
      have e51_ := e51; rw [Array.getD_eq_getD_getElem?] at e51_
      have e53_ := e53; rw [Array.getD_eq_getD_getElem?] at e53_
      clear hp hi s1 s2 s3
      have j0 : (0 : Int) ≤ (j : Int) := by omega
      have j1 : (j : Int) < n := by omega
      refine wpOp_of rfl rfl ?_
      go_simp
      first | exact hK _ _ rfl (Foot.refl _ _) hS | (rw [ej]; exact hK _ _ rfl (Foot.refl _ _) hS) | (rw [em]; exact hK _ _ rfl (Foot.refl _ _) hS)
    · intro a w vs k K hR hp hi hS s1 s2 s3 hK
      have e63 : a.tmps.getD 63 undef = .pointer (some ⟨cb, j, none⟩) := ((hp 12 (by decide)).2 63 rfl).trans (hp 12 (by decide)).1
      have e62 : a.tmps.getD 62 undef = .int .u8 (xv : Nat) := ((hp 11 (by decide)).2 62 rfl).trans (hp 11 (by decide)).1
      obtain rfl := s1 0 (by decide) rfl
      have e63_ := e63; rw [Array.getD_eq_getD_getElem?] at e63_
      have e62_ := e62; rw [Array.getD_eq_getD_getElem?] at e62_
      clear hp hi s1 s2 s3
      have hc13 := (hS j hjn).1
      have hf13 := (hS j hjn).2
      simp only at hc13
      refine wpOp_of rfl rfl ?_
      go_simp
      exact hK undef _ trivial (Foot.setCell _ _ _ rfl) (RowIs.set hS j xv hjn (by show ((flip L kk).getD j 0).toNat = xv; rw [HF.out j hjn, if_pos rfl, UInt8.toNat_ofNat']; omega) (fun i hi hij => by show ((flip L kk).getD i 0).toNat = (L.getD i 0).toNat; rw [HF.out i hi, if_neg hij]))
  case hfin =>
    intro vs w5 hR5 hH hS5
    have q0 : vs 0 = .slice (some ⟨cb, 0, none⟩) n cap := hH 0 (by decide)
    have q1 : vs 1 = .int .i64 (kk : Nat) := hH 1 (by decide)
    have q2 : vs 2 = .int .i64 (j : Nat) := hH 2 (by decide)
    have q3 : vs 3 = .slice (some ⟨cb, 0, none⟩) n cap := hH 3 (by decide)
    have q4 : vs 4 = .int .i64 (kk : Nat) := hH 4 (by decide)
    have q5 : vs 5 = .int .i64 (j : Nat) := hH 5 (by decide)
    have q6 : vs 6 = .pointer (some ⟨cb, j, none⟩) := hH 6 (by decide)
    have q7 : vs 7 = .int .u8 (c.toNat : Nat) := hH 7 (by decide)
    have q8 : vs 8 = .int .i64 (kk : Nat) := hH 8 (by decide)
    have q9 : vs 9 = .int .i64 (m : Nat) := hH 9 (by decide)
    have q10 : vs 10 = .int .u8 (IntKind.u8.wrap (2 ^ m)) := hH 10 (by decide)
    have q11 : vs 11 = .int .u8 (xv : Nat) := hH 11 (by decide)
    have q12 : vs 12 = .pointer (some ⟨cb, j, none⟩) := hH 12 (by decide)
    clear hH
    simp only [putL, Act.put, List.setIfInBounds_toArray, List.set_cons_zero, List.set_cons_succ, q0, q1, q2, q3, q4, q5, q6, q7, q8, q9, q10, q11, q12]
    clear q0 q1 q2 q3 q4 q5 q6 q7 q8 q9 q10 q11 q12
    have hP := fun w => parse_any 6 src dst (str (flip L kk)) w hsrc hdst (by rw [str_size]; unfold flip; rw [List.length_set, ← HN.out]; unfold maxLen; omega)
    have HP := Lib.hid hP; clear hP
    have hrow : RowIs n cb (fun i => ((flip L kk).getD i 0).toNat) w5 := hS5
    have hsz5 := hR5.size
    have hsz5' : cb + 1 ≤ w5.heap.size := by rw [← hsz2]; exact hsz5
    have hbel5 : Below w.heap.size w w5 := by
      have h1 : Below w.heap.size w w1 := ((Below.refl _ _).alloc (Nat.le_refl _) _).trans (hf1.mono (by simp))
      have h2 := h1.size
      rw [HCB.out] at h2
      exact ⟨hR5.os.trans (hos.1.trans h1.os), hR5.tape.trans (hos.2.1.trans h1.tape), hR5.output.trans (hos.2.2.trans h1.output), by omega, fun i hi => ((hR5.block i (by show i < w2.heap.size; omega) (by omega)).trans (hold i (by omega))).trans (h1.block i hi)⟩
    have HB5 := Lib.hid hbel5; clear hbel5 hR5 hS5 hsz5 hf1 hold hos hcs
    have hconv := run_convert_bytes_arg (P := Try.prog) w5 35 5 Try.underlying35 Try.underlying5 cb 0 n cap ((flip L kk).map fun c => (c.toNat : Int)) (by rw [List.length_map]; unfold flip; rw [List.length_set, ← HN.out]) (fun i hi => by
      rw [Nat.zero_add, (hrow i hi).1]
      simp only [List.getD_eq_getElem?_getD, List.getElem?_map]
      cases (flip L kk)[i]? <;> rfl) 9 Try.underlying9
    have hstr : strOfNums ((flip L kk).map fun c => (c.toNat : Int)) = str (flip L kk) := by
      unfold strOfNums str
      rw [List.map_map]
      congr 2
      simp [Function.comp_def]
    rw [hstr] at hconv
    have HCV := Lib.hid hconv; clear hconv hstr
    have c6 := (hrow 6 (by omega)).1
    have c7 := (hrow 7 (by omega)).1
    have HRW := Lib.hid hrow; clear hrow
    go_wp2_with (fail)
    rw [HCV.out]
    simp only [Result.andThen]
    rw [Oper.upon_value]
    go_wp2_with (fail)
    refine (HP.out _).mono ?_
    rintro e w6 ⟨rfl, hf6⟩
    have k6 : w6.cell? ⟨cb, 6, none⟩ = some (.int .u8 (((flip L kk).getD 6 0).toNat : Nat)) := (World.cell?_of_block (a := ⟨cb, 6, none⟩) (hf6.block cb (by omega))).trans c6
    have k7 : w6.cell? ⟨cb, 7, none⟩ = some (.int .u8 (((flip L kk).getD 7 0).toNat : Nat)) := (World.cell?_of_block (a := ⟨cb, 7, none⟩) (hf6.block cb (by omega))).trans c7
    have hbel6 : Below w.heap.size w w6 := HB5.out.trans (hf6.mono HB5.out.size)
    have hsz6 : cb < w6.heap.size := by have := hf6.size; omega
    have HB6 := Lib.hid hbel6; clear hbel6 HB5 HP HCV hf6 c6 c7
    by_cases hcode : parseCode 6 src dst (str (flip L kk)) = 0
    · obtain ⟨hp17, e6, e7⟩ := HPL.out.resolve_left (fun h => h hcode)
      exact absurd hp17 (by decide)
    · have hsg : parseSeg 6 src dst (str (flip L kk)) = zeroSeg := by unfold parseSeg; rw [if_neg hcode]
      rw [hsg]
      obtain ⟨n1, n2⟩ := codeNe hcode
      generalize parseCode 6 src dst (str (flip L kk)) = code at *
      unfold Seg.cells zeroSeg
      have HC1 := Lib.hid hcode; clear hcode hsg k6 k7
      go_wp2_with (go_at_call 10; (with_reducible refine (awake6 _).mono ?_); rintro e w7 ⟨rfl, hf7⟩)
      go_ret
      exact ⟨rfl, (HB6.out.alloc HB6.out.size _).trans (hf7.mono (by have := HB6.out.size; simp; omega))⟩

end Go.Proofs.Ytcmgfmpmapnckaa
