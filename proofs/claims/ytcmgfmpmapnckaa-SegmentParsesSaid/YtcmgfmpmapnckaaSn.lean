/- Walks of package sum: Of, Good, Pseudo. -/
import Derived.Test.YtcmgfmpmapnckaaSm
namespace Go.Proofs.Ytcmgfmpmapnckaa
open Go.RowKit
set_option linter.unusedVariables false
set_option linter.unusedSimpArgs false

/-- The two functions of a sum. -/
def addPut (bn bh : Nat) : Value := .func (.func 121) #[] #[.pointer (some ⟨bh, 0, none⟩), .pointer (some ⟨bn, 0, none⟩)]
def addEnd (bn : Nat) : Value := .func (.func 123) #[] #[.pointer (some ⟨bn, 0, none⟩)]

set_option maxHeartbeats 1000000 in
theorem addEnd_any (bn bh : Nat) (x : Nat × Bool) (w : World) (h : SumAt w bn bh x) :
    Calls Try.prog 123 #[.pointer (some ⟨bn, 0, none⟩)] w fun e w' => e = .returned (.int .i64 (x.1 : Nat)) ∧ w = w' := by
  have c0 : w.cell? ⟨bn, 0, none⟩ = some (.int .i64 (x.1 : Nat)) := (blk_cell h.1 0).trans rfl
  clear h
  go_enter Try.func123, Try.ntmps123
  go_wp2
  go_ret
  exact ⟨rfl, rfl⟩

set_option maxHeartbeats 1000000 in
theorem add_any (w : World) :
    Calls Try.prog 87 #[] w fun e w' => e = .returned (.tuple #[addPut w.heap.size (w.heap.size + 1), addEnd w.heap.size]) ∧ SumAt w' w.heap.size (w.heap.size + 1) (0, true) ∧ Foot (fun _ => False) w w' ∧ w'.heap.size = w.heap.size + 2 := by
  go_enter Try.func87, Try.ntmps87
  go_wp2
  have e0 : (w.alloc (.cells #[.int .i64 0] 3)).heap[w.heap.size]? = some (.cells #[.int .i64 ((0 : Nat) : Int)] 3 (0, 0)) := (blk_new w _).trans rfl
  refine bodyPost_ret (v := .tuple #[addPut w.heap.size (w.heap.size + 1), addEnd w.heap.size]) (by simp [results, Try.results87, go_sem, addPut, addEnd]) rfl ⟨rfl, ⟨blk_alloc e0 _, ?_, by omega⟩, ?_, by simp⟩
  · have := blk_new (w.alloc (.cells #[.int .i64 0] 3)) (.cells #[.bool true] 4)
    simpa using this
  · exact (Foot.alloc _ w _).trans (Foot.alloc _ _ _)

set_option maxHeartbeats 2000000 in
theorem of_any (x : Nat) (vals : List ByteArray) (n c : Nat) (w : World) (hn : n = vals.length) (hx : StrsAt w x vals) (hnn : n ≤ 1000) (hs : ∀ s ∈ vals, s.size ≤ maxLen) :
    Calls Try.prog 42 #[.slice (some ⟨x, 0, none⟩) n c] w fun e w' => e = .returned (.int .i64 ((65535 - (putL8 (0, true) (cat vals)).1 : Nat) : Int)) ∧ Foot (fun _ => False) w w' := by
  have HN := Lib.hid hn; clear hn
  have HX := Lib.hid hx; clear hx
  have HS := Lib.hid hs; clear hs
  go_enter Try.func42, Try.ntmps42
  go_wp2_with (go_at_call 87; (with_reducible refine (add_any _).mono ?_); rintro e w1 ⟨rfl, hs1, hf1, hz1⟩)
  unfold addPut addEnd
  have hxw := HX.out
  have hxlt := blk_lt hxw
  generalize hbn : w.heap.size = bn at *
  have HBN := Lib.hid hbn; clear hbn
  have hx1 := Lib.hid (hf1.keep hxw id); clear hxw
  go_loopw [14] (fun i wr => ∃ k : Nat, k ≤ n ∧ i = .int .i64 k ∧ SumAt wr bn (bn + 1) (putL8 (0, true) (cat (vals.take k))) ∧ Foot (fun k => k = bn ∨ k = bn + 1) w1 wr) (fun i _ => n - (intOf i).toNat)
  case atStart => exact ⟨0, Nat.zero_le _, rfl, hs1, Foot.refl _ _⟩
  case round =>
    obtain ⟨k, hk, rfl, hsm, hF⟩ := hrel
    have hle := putL8_le (cat (vals.take k)) (0, true) (Nat.zero_le _)
    have HSM := Lib.hid hsm; clear hsm hs1
    by_cases hlt : k < n
    · have hkl : k < vals.length := by rw [← HN.out]; exact hlt
      have hxr : StrsAt wr x vals := hF.keep hx1.out (by omega)
      have hc := hxr.cell k hkl
      have hsz := HS.out _ (List.getElem_mem hkl)
      have ht := List.take_succ_eq_append_getElem hkl
      generalize vals[k] = s at *
      have HT := Lib.hid ht; clear ht hxr
      generalize hx0 : putL8 (0, true) (cat (vals.take k)) = x0 at *
      have HX0 := Lib.hid hx0; clear hx0
      have hx0 : x0.1 ≤ 65535 := hle
      have hs' := hsz
      unfold maxLen at hs'
      go_wp2
      go_loopw [20] (fun i wi => ∃ j : Nat, j ≤ s.size ∧ i = .int .i64 j ∧ SumAt wi bn (bn + 1) (putL8 x0 (s.data.toList.take j)) ∧ Foot (fun k => k = bn ∨ k = bn + 1) wr wi) (fun i _ => s.size - (intOf i).toNat)
      case atStart => exact ⟨0, Nat.zero_le _, rfl, HSM.out, Foot.refl _ _⟩
      case round =>
        obtain ⟨j, hj, rfl, hsm, hFi⟩ := hrel
        have hle2 := putL8_le (s.data.toList.take j) x0 hx0
        have HS2 := Lib.hid hsm; clear hsm
        by_cases hjs : j < s.size
        · have hd := take_snoc s j hjs
          have HD := Lib.hid hd; clear hd
          go_wp2_with (go_at_call 121; (with_reducible refine (addPut_any bn (bn + 1) _ s[j] _ rfl _ HS2.out hle2).mono ?_); rintro e w2 ⟨rfl, hsm2, hF2⟩)
          go_roundw
          case rel => exact ⟨j + 1, by omega, by go_num, by rw [HD.out, putL8_snoc]; exact hsm2, hFi.trans hF2⟩
          case measure => simp [intOf]; omega
        · have e : j = s.size := by omega
          go_wp2
          go_roundw
          case rel =>
            refine ⟨k + 1, by omega, by go_num, ?_, hF.trans hFi⟩
            have := HS2.out
            rw [List.take_of_length_le (by rw [e]; exact Nat.le_of_eq Array.length_toList)] at this
            rw [HT.out, cat_snoc, putL8_append]
            exact HX0.out ▸ this
          case measure => simp [intOf]; omega
    · have e : k = n := by omega
      go_wp2_with (go_at_call 123; (with_reducible refine (addEnd_any bn (bn + 1) _ _ HSM.out).mono ?_); rintro e w2 ⟨rfl, rfl⟩)
      go_ret
      refine ⟨?_, ?_⟩
      · apply ret_int
        have hl : vals.length ≤ k := by rw [← HN.out, e]; exact Nat.le_refl _
        rw [List.take_of_length_le hl] at hle
        first | rw [List.take_of_length_le hl] | rw [List.take_of_length_le (e ▸ hl)]
        unfold wrap64
        omega
      · exact hf1.trans' hF (fun i hi hc => by have := HBN.out; omega)

set_option maxHeartbeats 1000000 in
theorem good_s (x : Nat) (vals : List ByteArray) (n c : Nat) (w : World) (hn : n = vals.length) (hx : StrsAt w x vals) (hnn : n ≤ 1000) (hs : ∀ s ∈ vals, s.size ≤ maxLen) :
    Calls Try.prog 49 #[.slice (some ⟨x, 0, none⟩) n c] w fun e w' => e = .returned (.bool (decide (65535 - (putL8 (0, true) (cat vals)).1 = 0))) ∧ Foot (fun _ => False) w w' := by
  have hcall := of_any x vals n c w hn hx hnn hs
  generalize 65535 - (putL8 (0, true) (cat vals)).1 = r at *
  have HC := Lib.hid hcall; clear hcall hs hx hn
  go_enter Try.func49, Try.ntmps49
  go_wp2_with (go_at_call 42; (with_reducible refine HC.out.mono ?_); rintro e w1 ⟨rfl, hf⟩)
  go_ret
  refine ⟨ret_bool ?_, hf⟩
  rw [Bool.eq_iff_iff]; simp

theorem bits_and_mask (x : Int) (i : Nat) (hi : i ≤ 62) (m : Int) (hm : m = ((2 ^ i - 1 : Nat) : Int)) : bits .and .i64 x m = x % ((2 ^ i : Nat) : Int) := by
  subst hm
  have hp : 2 ^ i ≤ 2 ^ 62 := Nat.pow_le_pow_right (by decide) hi
  have hpos : 0 < 2 ^ i := Nat.two_pow_pos i
  have h1 : (BitVec.ofInt 64 x).toNat = (x % (2 ^ 64 : Nat)).toNat := by simp [BitVec.toNat_ofInt]
  have h2 : (BitVec.ofInt 64 ((2 ^ i - 1 : Nat) : Int)).toNat = 2 ^ i - 1 := by
    rw [BitVec.ofInt_natCast, BitVec.toNat_ofNat]
    exact Nat.mod_eq_of_lt (by omega)
  have h3 : bits .and .i64 x ((2 ^ i - 1 : Nat) : Int) = IntKind.i64.wrap (((BitVec.ofInt 64 x).toNat &&& (BitVec.ofInt 64 ((2 ^ i - 1 : Nat) : Int)).toNat : Nat) : Int) := by
    simp only [bits]; rfl
  rw [h3, h1, h2, Nat.and_two_pow_sub_one_eq_mod]
  have h4 : (((x % (2 ^ 64 : Nat)).toNat % 2 ^ i : Nat) : Int) = x % ((2 ^ i : Nat) : Int) := by
    have h5 : ((x % (2 ^ 64 : Nat)).toNat : Int) = x % (2 ^ 64 : Nat) := Int.toNat_of_nonneg (Int.emod_nonneg _ (by decide))
    rw [Int.natCast_emod, h5]
    apply Int.emod_emod_of_dvd
    exact_mod_cast Nat.pow_dvd_pow 2 (by omega : i ≤ 64)
  rw [h4]
  have h6 : x % ((2 ^ i : Nat) : Int) < ((2 ^ i : Nat) : Int) := Int.emod_lt_of_pos _ (by exact_mod_cast hpos)
  have h7 : 0 ≤ x % ((2 ^ i : Nat) : Int) := Int.emod_nonneg _ (by have : (2 ^ i : Nat) ≠ 0 := by omega
                                                                   exact_mod_cast this)
  have h8 : ((2 ^ i : Nat) : Int) ≤ ((2 ^ 62 : Nat) : Int) := by exact_mod_cast hp
  exact IntWalk.i64_in _ (by omega)

/-- The bytes ahead of a segment in its check sum. -/
def pseudo (src dst : Nat) (proto size : Int) : List UInt8 :=
  beAll 4 [src, dst] ++ beAll 1 [0, (proto % 256).toNat] ++ beAll 2 [(size % 65536).toNat]

theorem WrAt.alloc {B b : Nat} {l : List UInt8} {w : World} (h : WrAt B w b l) (o : Obj) : WrAt B (w.alloc o) b l := by
  obtain ⟨p, v, h1, h2, h3, h4, v', h5, h6, h7⟩ := h
  exact ⟨p, v, h1, h2, blk_alloc h3 _, h4, v', h5, own_alloc h6 _, h7⟩

/-- A new Writer. -/
theorem WrAt.new (w : World) : WrAt w.heap.size (w.alloc (.cells #[.bool false, .pointer none, .slice none 0 0] 103)) w.heap.size [] :=
  ⟨.pointer none, .slice none 0 0, .inr ⟨rfl, rfl, rfl⟩, Nat.le_refl _, blk_new w _, .inl rfl, .slice none 0 0, rfl, World.ownsRow_nil _ _ _ _, fun _ => rfl⟩

set_option maxHeartbeats 2000000 in
set_option maxRecDepth 100000 in
theorem pseudo_any (src dst : Nat) (proto size : Int) (w : World) (h1 : src < 4294967296) (h2 : dst < 4294967296) :
    Calls Try.prog 43 #[.int .u32 src, .int .u32 dst, .int .i64 proto, .int .i64 size] w fun e w' => e = .returned (.string ⟨(pseudo src dst proto size).toArray⟩) ∧ Below w.heap.size w w' := by
  have hb1 : bits .and .i64 proto 255 = ((proto % 256).toNat : Int) := by
    rw [bits_and_mask proto 8 (by decide) 255 rfl]
    show proto % 256 = _
    omega
  have hb2 : bits .and .i64 size 65535 = ((size % 65536).toNat : Int) := by
    rw [bits_and_mask size 16 (by decide) 65535 rfl]
    show size % 65536 = _
    omega
  have hp : (proto % 256).toNat ≤ 255 := by omega
  have hz : (size % 65536).toNat ≤ 65535 := by omega
  have HPS : Hid (pseudo src dst proto size = beAll 4 [src, dst] ++ beAll 1 [0, (proto % 256).toNat] ++ beAll 2 [(size % 65536).toNat]) := rfl
  generalize (proto % 256).toNat = p8 at *
  generalize (size % 65536).toNat = z16 at *
  go_enter Try.func43, Try.ntmps43
  go_wp2_with (fail)
  have hw0 := (WrAt.new w).alloc (.cells #[.int .u32 src, .int .u32 dst] 22)
  have hx0 : IntsAt ((w.alloc (.cells #[.bool false, .pointer none, .slice none 0 0] 103)).alloc (.cells #[.int .u32 src, .int .u32 dst] 22)) (w.heap.size + 1) 22 .u32 [src, dst] := by
    have := blk_new (w.alloc (.cells #[.bool false, .pointer none, .slice none 0 0] 103)) (.cells #[.int .u32 src, .int .u32 dst] 22)
    simpa [IntsAt] using this
  have hs0 : WStep w.heap.size w.heap.size w ((w.alloc (.cells #[.bool false, .pointer none, .slice none 0 0] 103)).alloc (.cells #[.int .u32 src, .int .u32 dst] 22)) := ((WStep.refl _ _ _).alloc _).alloc _
  generalize (w.alloc (.cells #[.bool false, .pointer none, .slice none 0 0] 103)).alloc (.cells #[.int .u32 src, .int .u32 dst] 22) = w0 at *
  have HW0 := Lib.hid hw0; clear hw0
  have HX0 := Lib.hid hx0; clear hx0
  refine (word_w _ _ _ [] [src, dst] 2 2 _ rfl HW0.out HX0.out (by simp) (by intro z hz; simp at hz; omega) (by simp) hs0.size).mono ?_
  rintro e w1 ⟨rfl, hw1, hs1⟩
  have HW1 := Lib.hid hw1; clear hw1
  have hs01 := hs0.trans hs1
  clear hs0 hs1
  go_wp2_with (fail)
  refine (byte_w _ _ _ _ [0, p8] 2 2 _ rfl (HW1.out.alloc _) (blk_new _ _) (by simp) (by intro z hz; simp at hz; omega) (by simp [beAll_length]) (hs01.alloc _).size).mono ?_
  rintro e w2 ⟨rfl, hw2, hs2⟩
  have HW2 := Lib.hid hw2; clear hw2
  have hs02 := (hs01.alloc _).trans hs2
  clear hs01 hs2
  go_wp2_with (fail)
  refine (short_w _ _ _ _ [z16] 1 1 _ rfl (HW2.out.alloc _) (blk_new _ _) (by simp) (by intro z hz; simp at hz; omega) (by simp [beAll_length]) (hs02.alloc _).size).mono ?_
  rintro e w3 ⟨rfl, hw3, hs3⟩
  have HW3 := Lib.hid hw3; clear hw3
  have hs03 := (hs02.alloc _).trans hs3
  clear hs02 hs3
  go_wp2_with (fail)
  refine (done_w _ _ _ _ HW3.out (by simp [beAll_length])).mono ?_
  rintro e w4 ⟨rfl, hs4⟩
  go_wp2
  go_ret
  exact ⟨by rw [HPS.out]; simp only [List.nil_append, List.append_assoc]; rfl, (hs03.trans hs4).below (Nat.le_refl _)⟩
end Go.Proofs.Ytcmgfmpmapnckaa
