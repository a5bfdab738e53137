/- Walks of package cursor's Writer, while it hasn't failed. -/
import Derived.Test.YtcmgfmpmapnckaaBd
import Derived.Test.YtcmgfmpmapnckaaRd
import Derived.Deep.RegionWith
import Derived.Deep.LoopGhost
namespace Go.Proofs.Ytcmgfmpmapnckaa
open Go.RowKit
set_option linter.unusedVariables false
set_option linter.unusedSimpArgs false

/-- A Writer at a block, that has not failed and holds the bytes l. -/
def WrAt (B : Nat) (w : World) (b : Nat) (l : List UInt8) : Prop :=
  ∃ p v, BdAt B w b 103 1 #[.bool false, p, v] l

theorem WrAt.cell0 {B : Nat} {w : World} {b : Nat} {l : List UInt8} (h : WrAt B w b l) : w.cell? ⟨b, 0, none⟩ = some (.bool false) := by
  obtain ⟨p, v, _, _, hb, _⟩ := h
  exact (blk_cell hb 0).trans rfl

theorem WrAt.lt {B : Nat} {w : World} {b : Nat} {l : List UInt8} (h : WrAt B w b l) : b < w.heap.size := by
  obtain ⟨p, v, _, _, hb, _⟩ := h
  exact blk_lt hb
theorem WrAt.base {B : Nat} {w : World} {b : Nat} {l : List UInt8} (h : WrAt B w b l) : B ≤ b := by
  obtain ⟨p, v, _, hB, _, _⟩ := h
  exact hB

/-- A number's bytes, the highest first. -/
def be : Nat → Nat → List UInt8
  | 0, _ => []
  | k + 1, n => UInt8.ofNat (n / 2 ^ (8 * k)) :: be k n

theorem be_length (k n : Nat) : (be k n).length = k := by
  induction k with
  | zero => rfl
  | succ k ih => simp [be, ih]

theorem be_drop (n : Nat) : ∀ (size k : Nat), k < size → (be size n)[k]? = some (UInt8.ofNat (n / 2 ^ (8 * (size - 1 - k)))) := by
  intro size
  induction size with
  | zero => intro k h; omega
  | succ size ih =>
    intro k h
    cases k with
    | zero => simp [be]
    | succ k =>
      simp only [be, List.getElem?_cons_succ]
      rw [ih k (by omega), show size + 1 - 1 - (k + 1) = size - 1 - k by omega]

theorem be_take (n size k : Nat) (h : k < size) : (be size n).take (k + 1) = (be size n).take k ++ [UInt8.ofNat (n / 2 ^ (8 * (size - 1 - k)))] := by
  rw [List.take_add_one, be_drop n size k h]; rfl

/-- Numbers' bytes. -/
def beAll (size : Nat) (l : List Nat) : List UInt8 := l.flatMap (be size)

theorem beAll_snoc (size : Nat) (l : List Nat) (n : Nat) : beAll size (l ++ [n]) = beAll size l ++ be size n := by simp [beAll]
theorem beAll_length (size : Nat) (l : List Nat) : (beAll size l).length = l.length * size := by
  induction l with
  | nil => simp [beAll]
  | cons a l ih => simp only [beAll, List.flatMap_cons, List.length_append, be_length, List.length_cons] at *; rw [ih, Nat.succ_mul]; omega

/-- A row of ints in a block of its own. -/
def IntsAt (w : World) (x : Nat) (T : TypeId) (k : IntKind) (l : List Nat) : Prop := w.heap[x]? = some (.cells ((l.map fun n : Nat => Value.int k (n : Int)).toArray) T (0, 0))

theorem IntsAt.cell {w : World} {x : Nat} {T : TypeId} {k : IntKind} {l : List Nat} (h : IntsAt w x T k l) (i : Nat) (hi : i < l.length) : w.cell? ⟨x, i, none⟩ = some (.int k (l[i] : Nat)) := by
  rw [blk_cell h i]; simp [hi]

theorem byte_of (z m : Nat) : IntKind.u8.wrap ((z : Int) / 2 ^ (8 * m)) = ((UInt8.ofNat (z / 2 ^ (8 * m))).toNat : Int) := by
  rw [IntKind.wrap_u8, UInt8.toNat_ofNat']
  have : ((2 : Int) ^ (8 * m)) = ((2 ^ (8 * m) : Nat) : Int) := by simp
  rw [this]
  omega

/-- What put leaves. -/
def PutPost (B b : Nat) (w : World) (l : List UInt8) (e : Ending) (w' : World) : Prop :=
  e = .returned (.pointer (some ⟨b, 0, none⟩)) ∧ WrAt B w' b l ∧ WStep B b w w'

theorem wr_byte {B b : Nat} {l : List UInt8} {w : World} (c : UInt8) (z : Int) (hz : z = c.toNat) (h : WrAt B w b l) (hlen : l.length + 1 ≤ 140737488355328) (hBw : B ≤ w.heap.size) :
    Calls Try.prog 125 #[.pointer (some ⟨b, 1, none⟩), .int .u8 z] w fun e w' => e = .returned .nilIface ∧ WrAt B w' b (l ++ [c]) ∧ WStep B b w w' := by
  obtain ⟨p, v, hb⟩ := h
  refine (writeByte_any B b 1 103 _ l c z hz w hb hlen hBw).mono ?_
  rintro e w' ⟨rfl, ⟨v', h'⟩, hs⟩
  exact ⟨rfl, ⟨_, _, h'⟩, hs⟩

theorem wr_string {B b : Nat} {l : List UInt8} {w : World} (s : ByteArray) (h : WrAt B w b l) (hlen : l.length + s.size ≤ 140737488355328) (hBw : B ≤ w.heap.size) :
    Calls Try.prog 83 #[.pointer (some ⟨b, 1, none⟩), .string s] w fun e w' => e = .returned (.tuple #[.int .i64 s.size, .nilIface]) ∧ WrAt B w' b (l ++ s.data.toList) ∧ WStep B b w w' := by
  obtain ⟨p, v, hb⟩ := h
  refine (writeString_any B b 1 103 _ l s w hb hlen hBw).mono ?_
  rintro e w' ⟨rfl, ⟨v', h'⟩, hs⟩
  exact ⟨rfl, ⟨_, _, h'⟩, hs⟩

theorem WrAt.drewN {B b : Nat} {l : List UInt8} {w : World} (h : WrAt B w b l) (n : Nat) : WrAt B (w.drewN n) b l := h
theorem WrAt.drew {B b : Nat} {l : List UInt8} {w : World} (h : WrAt B w b l) : WrAt B w.drew b l := h

set_option maxHeartbeats 1000000 in
set_option maxRecDepth 100000 in
theorem put_any (B b x : Nat) (T : TypeId) (size : Nat) (zs zm : Int) (hzs : zs = size) (most : Nat) (hzm : zm = most) (l : List UInt8) (vals : List Nat) (n c : Nat) (w : World) (hn : n = vals.length)
    (h : WrAt B w b l) (hx : IntsAt w x T .i64 vals) (hT : T = 3) (hnn : vals.length ≤ 1000) (hsz : size ≤ 4) (hmost : most < 4294967296) (hv : ∀ z ∈ vals, z ≤ most) (hlen : l.length + vals.length * size ≤ 140737488355328) (hBw : B ≤ w.heap.size) :
    Calls Try.prog 90 #[.pointer (some ⟨b, 0, none⟩), .int .i64 zs, .int .i64 zm, .slice (some ⟨x, 0, none⟩) n c] w (PutPost B b w (l ++ beAll size vals)) := by
  subst hzs hzm hT
  have hn63 : n ≤ 1000 := by omega
  have HN := Lib.hid hn; clear hn
  have hxb : x ≠ b := by
    obtain ⟨p, v, _, _, hb, _⟩ := h
    intro e; subst e
    unfold IntsAt at hx
    rw [hb] at hx
    simp at hx
  have HX := Lib.hid hx; clear hx
  have HV := Lib.hid hv; clear hv
  have H := Lib.hid h; clear h
  go_enter Try.func90, Try.ntmps90
  go_wp2
  go_loopw [16] (fun i wr => ∃ k : Nat, k ≤ n ∧ i = .int .i64 k ∧ WrAt B wr b (l ++ beAll size (vals.take k)) ∧ WStep B b w wr) (fun i _ => n - (intOf i).toNat)
  case atStart => exact ⟨0, Nat.zero_le _, rfl, by simpa [beAll] using H.out, WStep.refl _ _ _⟩
  case round =>
    obtain ⟨k, hk, rfl, hw, hs⟩ := hrel
    have HW := Lib.hid hw; clear hw
    by_cases hlt : k < n
    · have hkl : k < vals.length := by rw [← HN.out]; exact hlt
      have hz := HV.out _ (List.getElem_mem hkl)
      have hxr : IntsAt wr x 3 .i64 vals := hs.keep HX.out (by decide) hxb
      have hc := hxr.cell k hkl
      have HXR := Lib.hid hxr; clear hxr
      have ht := List.take_succ_eq_append_getElem hkl
      generalize vals[k] = z at *
      have HT := Lib.hid ht; clear ht
      have c0 := HW.out.cell0
      have b1 : ((z : Int) < 0) = False := by simp
      have b2 : decide (most < z) = false := by simp; omega
      go_wp2
      go_loopw [11] (fun i wi => ∃ j : Nat, j ≤ size ∧ i = .int .i64 ((size : Int) - 1 - j) ∧ WrAt B wi b (l ++ beAll size (vals.take k) ++ (be size z).take j) ∧ WStep B b wr wi) (fun i _ => (intOf i + 1).toNat)
      case atStart => exact ⟨0, Nat.zero_le _, by simp, by simpa using HW.out, WStep.refl _ _ _⟩
      case round =>
        obtain ⟨j, hj, rfl, hwi, hsi⟩ := hrel
        have HWI := Lib.hid hwi; clear hwi
        have c0 := HWI.out.cell0
        by_cases hjs : j < size
        · have hm : ∃ m : Nat, m = size - 1 - j := ⟨_, rfl⟩
          obtain ⟨m, hm⟩ := hm
          have e : (size : Int) - 1 - j = (m : Int) := by omega
          rw [e]
          have HM := Lib.hid hm; clear hm
          have HE := Lib.hid e; clear e
          have hm3 : m ≤ 3 := by have := HM.out; omega
          have b3 : decide ((m : Int) ≥ 0) = true := by simp
          have b4 : decide ((0 : Int) ≤ (m : Int)) = true := by simp
          go_wp2_with (go_at_call 89; (with_reducible refine (good_any _ _ _ c0).mono ?_); rintro e w' ⟨rfl, rfl⟩)
          have he : 8 * (m : Int) = ((8 * m : Nat) : Int) := by omega
          have h8 : IntKind.i64.wrap (8 * (m : Int)) = 8 * (m : Int) := IntWalk.i64_in _ (by omega)
          have h80 : (0 : Int) ≤ 8 * (m : Int) := by omega
          have h81 : 8 * (m : Int) ≤ 64 := by omega
          have h82 : (8 * (m : Int)).toNat = 8 * m := by omega
          clear he
          have hby := byte_of z m
          have HBY := Lib.hid hby; clear hby
          have hl1 : (l ++ beAll size (vals.take k) ++ (be size z).take j).length + 1 ≤ 140737488355328 := by
            simp only [List.length_append, beAll_length, List.length_take, be_length]
            have h1 := Nat.mul_le_mul_right size hkl
            rw [Nat.succ_mul] at h1
            have h2 : min k vals.length * size = k * size := by rw [Nat.min_eq_left (by omega)]
            omega
          have hBr : B ≤ wr.drew.heap.size := by have := hs.size; have := hsi.size; show B ≤ wr.heap.size; omega
          go_region_with (go_at_call 125; (with_reducible refine (wr_byte (UInt8.ofNat (z / 2 ^ (8 * m))) _ HBY.out (WrAt.drew HWI.out) hl1 hBr).mono ?_); rintro e w' ⟨rfl, hw2, hs2⟩)
          go_wp2
          go_roundw
          case rel => exact ⟨j + 1, by omega, by have := HE.out; exact congrArg (Value.int .i64) (by omega), by rw [be_take z size j hjs, ← HM.out, ← List.append_assoc]; exact hw2, hsi.trans ((WStep.refl _ _ _).drew.trans hs2)⟩
          case measure => simp [intOf]
        · have e : j = size := by omega
          subst e
          have b3 : decide ((0 : Int) ≤ (j : Int) - 1 - (j : Int)) = false := by simp; omega
          have b4 : decide ((j : Int) - 1 - (j : Int) ≥ 0) = false := by simp; omega
          go_wp2
          go_roundw
          case rel =>
            refine ⟨k + 1, by omega, by go_num, ?_, hs.trans hsi⟩
            rw [HT.out, beAll_snoc, ← List.append_assoc]
            have := HWI.out
            rwa [List.take_of_length_le (l := be j z) (by rw [be_length]; exact Nat.le_refl _)] at this
          case measure => simp [intOf]; omega
    · go_wp2
      go_ret
      have : k = n := by omega
      subst this
      exact ⟨rfl, by have := HW.out; rwa [List.take_of_length_le (by rw [← HN.out]; exact Nat.le_refl _)] at this, hs⟩


set_option maxHeartbeats 1000000 in
set_option maxRecDepth 100000 in
theorem short_w (B b x : Nat) (l : List UInt8) (vals : List Nat) (n c : Nat) (w : World) (hn : n = vals.length)
    (h : WrAt B w b l) (hx : IntsAt w x 3 .i64 vals) (hnn : vals.length ≤ 1000) (hv : ∀ z ∈ vals, z ≤ 65535) (hlen : l.length ≤ 1000000) (hBw : B ≤ w.heap.size) :
    Calls Try.prog 45 #[.pointer (some ⟨b, 0, none⟩), .slice (some ⟨x, 0, none⟩) n c] w (PutPost B b w (l ++ beAll 2 vals)) := by
  have HN := Lib.hid hn; clear hn
  have HV := Lib.hid hv; clear hv
  have H := Lib.hid h; clear h
  have HX := Lib.hid hx; clear hx
  go_enter Try.func45, Try.ntmps45
  go_wp2_with (go_at_call 90; (with_reducible refine (put_any B b x 3 2 _ _ (by omega) 65535 (by omega) l vals n c w HN.out H.out HX.out rfl hnn (by omega) (by omega) HV.out (by omega) hBw).mono ?_); rintro e w' ⟨rfl, hw, hs⟩)
  go_ret
  exact ⟨rfl, hw, hs⟩

set_option maxHeartbeats 1000000 in
set_option maxRecDepth 100000 in
theorem byte_w (B b x : Nat) (l : List UInt8) (vals : List Nat) (n c : Nat) (w : World) (hn : n = vals.length)
    (h : WrAt B w b l) (hx : IntsAt w x 3 .i64 vals) (hnn : vals.length ≤ 1000) (hv : ∀ z ∈ vals, z ≤ 255) (hlen : l.length ≤ 1000000) (hBw : B ≤ w.heap.size) :
    Calls Try.prog 88 #[.pointer (some ⟨b, 0, none⟩), .slice (some ⟨x, 0, none⟩) n c] w (PutPost B b w (l ++ beAll 1 vals)) := by
  have HN := Lib.hid hn; clear hn
  have HV := Lib.hid hv; clear hv
  have H := Lib.hid h; clear h
  have HX := Lib.hid hx; clear hx
  go_enter Try.func88, Try.ntmps88
  go_wp2_with (go_at_call 90; (with_reducible refine (put_any B b x 3 1 _ _ (by omega) 255 (by omega) l vals n c w HN.out H.out HX.out rfl hnn (by omega) (by omega) HV.out (by omega) hBw).mono ?_); rintro e w' ⟨rfl, hw, hs⟩)
  go_ret
  exact ⟨rfl, hw, hs⟩

theorem IntsAt.ne {w : World} {x b B : Nat} {T : TypeId} {k : IntKind} {vals : List Nat} {l : List UInt8} (hx : IntsAt w x T k vals) (h : WrAt B w b l) (hT : T ≠ 103) : x ≠ b := by
  obtain ⟨p, v, _, _, hb, _⟩ := h
  intro e; subst e
  unfold IntsAt at hx
  rw [hb] at hx
  simp at hx
  exact hT hx.2.symm

set_option maxHeartbeats 2000000 in
set_option maxRecDepth 100000 in
theorem word_w (B b x : Nat) (l : List UInt8) (vals : List Nat) (n c : Nat) (w : World) (hn : n = vals.length)
    (h : WrAt B w b l) (hx : IntsAt w x 22 .u32 vals) (hnn : vals.length ≤ 1000) (hv : ∀ z ∈ vals, z ≤ 4294967295) (hlen : l.length ≤ 1000000) (hBw : B ≤ w.heap.size) :
    Calls Try.prog 86 #[.pointer (some ⟨b, 0, none⟩), .slice (some ⟨x, 0, none⟩) n c] w (PutPost B b w (l ++ beAll 4 vals)) := by
  have hn63 : n ≤ 1000 := by omega
  have hxb := hx.ne h (by decide)
  have HN := Lib.hid hn; clear hn
  have HV := Lib.hid hv; clear hv
  have H := Lib.hid h; clear h
  have HX := Lib.hid hx; clear hx
  go_enter Try.func86, Try.ntmps86
  go_wp2
  go_loopw [9] (fun i wr => ∃ k : Nat, k ≤ n ∧ i = .int .i64 k ∧ WrAt B wr b (l ++ beAll 4 (vals.take k)) ∧ WStep B b w wr) (fun i _ => n - (intOf i).toNat)
  case atStart => exact ⟨0, Nat.zero_le _, rfl, by simpa [beAll] using H.out, WStep.refl _ _ _⟩
  case round =>
    obtain ⟨k, hk, rfl, hw, hs⟩ := hrel
    have HW := Lib.hid hw; clear hw
    by_cases hlt : k < n
    · have hkl : k < vals.length := by rw [← HN.out]; exact hlt
      have hz := HV.out _ (List.getElem_mem hkl)
      have hxr : IntsAt wr x 22 .u32 vals := hs.keep HX.out (by decide) hxb
      have hc := hxr.cell k hkl
      have ht := List.take_succ_eq_append_getElem hkl
      generalize vals[k] = z at *
      have HT := Lib.hid ht; clear ht hxr
      have hl1 : (l ++ beAll 4 (vals.take k)).length ≤ 1010000 := by
        simp only [List.length_append, beAll_length, List.length_take]; omega
      have hBr : B ≤ wr.heap.size := by have := hs.size; omega
      have hput := put_any B b wr.heap.size 3 4 4 4294967295 (by omega) 4294967295 (by omega) (l ++ beAll 4 (vals.take k)) [z] 1 1 (wr.alloc (.cells #[.int .i64 z] 3)) rfl
        (by
          obtain ⟨p, v, h1, h2, h3, h4, v', h5, h6, h7⟩ := HW.out
          exact ⟨p, v, h1, h2, blk_alloc h3 _, h4, v', h5, own_alloc h6 _, h7⟩)
        (blk_new _ _) rfl (by simp) (by omega) (by omega) (by intro y hy; simp at hy; omega) (by simp only [List.length_singleton]; omega) (by simp; omega)
      have HP := Lib.hid hput; clear hput
      go_wp2_with (go_at_call 90; go_loud (refine HP.out.mono ?_); rintro e w1 ⟨rfl, hw1, hs1⟩)
      go_wp2
      go_roundw
      case rel => exact ⟨k + 1, by omega, by go_num, by rw [HT.out, beAll_snoc, ← List.append_assoc]; simpa [beAll] using hw1, (hs.alloc _).trans hs1⟩
      case measure => simp [intOf]; omega
    · go_wp2
      go_ret
      have : k = n := by omega
      subst this
      exact ⟨rfl, by have := HW.out; rwa [List.take_of_length_le (by rw [← HN.out]; exact Nat.le_refl _)] at this, hs⟩

/-- A row of strings in a block of its own. -/
def StrsAt (w : World) (x : Nat) (l : List ByteArray) : Prop := w.heap[x]? = some (.cells ((l.map Value.string).toArray) 9 (0, 0))

theorem StrsAt.cell {w : World} {x : Nat} {l : List ByteArray} (h : StrsAt w x l) (i : Nat) (hi : i < l.length) : w.cell? ⟨x, i, none⟩ = some (.string l[i]) := by
  rw [blk_cell h i]; simp [hi]

theorem StrsAt.ne {w : World} {x b B : Nat} {vals : List ByteArray} {l : List UInt8} (hx : StrsAt w x vals) (h : WrAt B w b l) : x ≠ b := by
  obtain ⟨p, v, _, _, hb, _⟩ := h
  intro e; subst e
  unfold StrsAt at hx
  rw [hb] at hx
  simp at hx

/-- Strings one behind the other. -/
def cat (l : List ByteArray) : List UInt8 := l.flatMap fun s => s.data.toList
theorem cat_snoc (l : List ByteArray) (s : ByteArray) : cat (l ++ [s]) = cat l ++ s.data.toList := by simp [cat]
theorem cat_take_le (l : List ByteArray) (k : Nat) : (cat (l.take k)).length ≤ (cat l).length := by
  have : cat l = cat (l.take k) ++ cat (l.drop k) := by unfold cat; rw [← List.flatMap_append, List.take_append_drop]
  rw [this]; simp

set_option maxHeartbeats 2000000 in
set_option maxRecDepth 100000 in
theorem text_w (B b x : Nat) (l : List UInt8) (vals : List ByteArray) (n c : Nat) (w : World) (hn : n = vals.length)
    (h : WrAt B w b l) (hx : StrsAt w x vals) (hnn : vals.length ≤ 1000) (hlen : l.length + (cat vals).length ≤ 1000000) (hBw : B ≤ w.heap.size) :
    Calls Try.prog 44 #[.pointer (some ⟨b, 0, none⟩), .slice (some ⟨x, 0, none⟩) n c] w (PutPost B b w (l ++ cat vals)) := by
  have hn63 : n ≤ 1000 := by omega
  have hxb := hx.ne h
  have HN := Lib.hid hn; clear hn
  have H := Lib.hid h; clear h
  have HX := Lib.hid hx; clear hx
  go_enter Try.func44, Try.ntmps44
  go_wp2
  go_loopw [11] (fun i wr => ∃ k : Nat, k ≤ n ∧ i = .int .i64 k ∧ WrAt B wr b (l ++ cat (vals.take k)) ∧ WStep B b w wr) (fun i _ => n - (intOf i).toNat)
  case atStart => exact ⟨0, Nat.zero_le _, rfl, by simpa [cat] using H.out, WStep.refl _ _ _⟩
  case round =>
    obtain ⟨k, hk, rfl, hw, hs⟩ := hrel
    have c0 := hw.cell0
    have HW := Lib.hid hw; clear hw
    by_cases hlt : k < n
    · have hkl : k < vals.length := by rw [← HN.out]; exact hlt
      have hxr : StrsAt wr x vals := hs.keep HX.out (by decide) hxb
      have hc := hxr.cell k hkl
      have ht := List.take_succ_eq_append_getElem hkl
      have hl1 : (l ++ cat (vals.take k)).length + vals[k].size ≤ 1000000 := by
        have h1 := cat_take_le vals (k + 1)
        rw [ht, cat_snoc] at h1
        simp only [List.length_append] at h1 ⊢
        have : vals[k].size = vals[k].data.toList.length := Array.length_toList.symm
        omega
      generalize vals[k] = z at *
      have HT := Lib.hid ht; clear ht hxr
      have hBr : B ≤ wr.heap.size := by have := hs.size; omega
      go_wp2_with (first | (go_at_call 89; (with_reducible refine (good_any _ _ _ c0).mono ?_); rintro e w' ⟨rfl, rfl⟩) | (go_at_call 83; (with_reducible refine (wr_string z HW.out (by omega) hBr).mono ?_); rintro e w1 ⟨rfl, hw1, hs1⟩))
      go_roundw
      case rel => exact ⟨k + 1, by omega, by go_num, by rw [HT.out, cat_snoc, ← List.append_assoc]; exact hw1, hs.trans hs1⟩
      case measure => simp [intOf]; omega
    · go_wp2
      go_ret
      have : k = n := by omega
      subst this
      exact ⟨rfl, by have := HW.out; rwa [List.take_of_length_le (by rw [← HN.out]; exact Nat.le_refl _)] at this, hs⟩

theorem wr_len {B b : Nat} {l : List UInt8} {w : World} (h : WrAt B w b l) :
    Calls Try.prog 91 #[.pointer (some ⟨b, 1, none⟩)] w fun e w' => e = .returned (.int .i64 l.length) ∧ w = w' := by
  obtain ⟨p, v, hb⟩ := h
  exact bdLen_any B b 1 103 _ l w hb
theorem wr_str {B b : Nat} {l : List UInt8} {w : World} (h : WrAt B w b l) :
    Calls Try.prog 84 #[.pointer (some ⟨b, 1, none⟩)] w fun e w' => e = .returned (.string ⟨l.toArray⟩) ∧ WStep B b w w' := by
  obtain ⟨p, v, hb⟩ := h
  exact bdString_any B b 1 103 _ l w hb

set_option maxHeartbeats 2000000 in
set_option maxRecDepth 100000 in
theorem done_w (B b : Nat) (l : List UInt8) (w : World) (h : WrAt B w b l) (hlen : l.length ≤ 65535) :
    Calls Try.prog 46 #[.pointer (some ⟨b, 0, none⟩)] w fun e w' => e = .returned (.tuple #[.string ⟨l.toArray⟩, .int .i64 0]) ∧ WStep B b w w' := by
  have c0 := h.cell0
  have b1 : decide (65535 < l.length) = false := by simp; omega
  have b2 : decide ((65535 : Int) < l.length) = false := by simp; omega
  have H := Lib.hid h; clear h
  go_enter Try.func46, Try.ntmps46
  go_wp2_with (first | (go_at_call 89; (with_reducible refine (good_any _ _ _ c0).mono ?_); rintro e w' ⟨rfl, rfl⟩) | (go_at_call 91; (with_reducible refine (wr_len H.out).mono ?_); rintro e w' ⟨rfl, rfl⟩) | (go_at_call 84; (with_reducible refine (wr_str H.out).mono ?_); rintro e w1 ⟨rfl, hs⟩))
  go_ret2
  exact ⟨rfl, hs⟩

end Go.Proofs.Ytcmgfmpmapnckaa
