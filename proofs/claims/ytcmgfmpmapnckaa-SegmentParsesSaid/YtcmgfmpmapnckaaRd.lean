/- Walks of package cursor's Reader. -/
import Derived.Test.YtcmgfmpmapnckaaBase
namespace Go.Proofs.Ytcmgfmpmapnckaa
open Go.RowKit
set_option linter.unusedVariables false
set_option linter.unusedSimpArgs false

set_option maxHeartbeats 400000 in
theorem good_any (a : Addr) (f : Bool) (w : World) (h : w.cell? a = some (.bool f)) :
    Calls Try.prog 89 #[.pointer (some a)] w fun e w' => e = .returned (.bool (!f)) ∧ w = w' := by
  go_enter Try.func89, Try.ntmps89
  go_wp2
  go_ret
  exact ⟨rfl, rfl⟩

set_option maxHeartbeats 400000 in
theorem fail_any (b : Nat) (w : World) (h : w.frozen? ⟨b, 0, none⟩ = false) (v : Value) (hv : w.cell? ⟨b, 0, none⟩ = some v) :
    Calls Try.prog 124 #[.pointer (some ⟨b, 0, none⟩)] w fun e w' => e = .returned (.tuple #[]) ∧ w' = w.setCell ⟨b, 0, none⟩ (.bool true) := by
  go_enter Try.func124, Try.ntmps124
  go_wp2
  go_end0
  exact ⟨rfl, rfl⟩

/-- A Reader at a block: whether it has failed, and what is left. -/
def RdAt (w : World) (b : Nat) (f : Bool) (s : ByteArray) : Prop := w.heap[b]? = some (.cells #[.bool f, .string s] 168 (0, 0))

set_option maxHeartbeats 400000 in
theorem ok_any (b : Nat) (f : Bool) (s : ByteArray) (w : World) (h : RdAt w b f s) :
    Calls Try.prog 126 #[.pointer (some ⟨b, 0, none⟩)] w fun e w' => e = .returned (.bool (!f)) ∧ w = w' := by
  have c0 : w.cell? ⟨b, 0, none⟩ = some (.bool f) := (blk_cell h 0).trans rfl
  go_enter Try.func126, Try.ntmps126
  go_wp2_with (go_at_call 89; (with_reducible refine (good_any _ _ _ c0).mono ?_); rintro e w' ⟨rfl, rfl⟩)
  go_ret
  exact ⟨rfl, rfl⟩

set_option maxHeartbeats 400000 in
theorem left_any (b : Nat) (s : ByteArray) (w : World) (h : RdAt w b false s) :
    Calls Try.prog 127 #[.pointer (some ⟨b, 0, none⟩)] w fun e w' => e = .returned (.int .i64 s.size) ∧ w = w' := by
  have c0 : w.cell? ⟨b, 1, none⟩ = some (.string s) := (blk_cell h 1).trans rfl
  go_enter Try.func127, Try.ntmps127
  go_wp2_with (go_at_call 126; (with_reducible refine (ok_any _ _ _ _ h).mono ?_); rintro e w' ⟨rfl, rfl⟩)
  go_ret
  exact ⟨rfl, rfl⟩


theorem RdAt.set1 {w : World} {b : Nat} {f : Bool} {s : ByteArray} (h : RdAt w b f s) (t : ByteArray) : RdAt (w.setCell ⟨b, 1, none⟩ (.string t)) b f t :=
  (blk_set h 1 _).trans rfl
theorem RdAt.set0 {w : World} {b : Nat} {f : Bool} {s : ByteArray} (h : RdAt w b f s) (g : Bool) : RdAt (w.setCell ⟨b, 0, none⟩ (.bool g)) b g s :=
  (blk_set h 0 _).trans rfl

/-- Of bytes those ahead of a place, and those from it on. -/
def hd (s : ByteArray) (n : Nat) : ByteArray := s.extract 0 n
def tl (s : ByteArray) (n : Nat) : ByteArray := s.extract n s.size
theorem hd_size (s : ByteArray) (n : Nat) (h : n ≤ s.size) : (hd s n).size = n := by unfold hd; simp; omega
theorem tl_size (s : ByteArray) (n : Nat) : (tl s n).size = s.size - n := by unfold tl; simp

set_option maxHeartbeats 400000 in
theorem take_any (b : Nat) (s : ByteArray) (z : Int) (n : Nat) (w : World) (hz : z = n) (h : RdAt w b false s) (hn : n ≤ s.size) (hs : s.size ≤ maxLen) :
    Calls Try.prog 94 #[.pointer (some ⟨b, 0, none⟩), .int .i64 z] w fun e w' => e = .returned (.string (hd s n)) ∧ RdAt w' b false (tl s n) ∧ Foot (· = b) w w' := by
  have c0 : w.cell? ⟨b, 1, none⟩ = some (.string s) := (blk_cell h 1).trans rfl
  have c1 : w.frozen? ⟨b, 1, none⟩ = false := blk_free h 1
  unfold maxLen at hs
  subst hz
  go_enter Try.func94, Try.ntmps94
  go_wp2_with (go_at_call 126; (with_reducible refine (ok_any _ _ _ _ h).mono ?_); rintro e w' ⟨rfl, rfl⟩)
  go_ret
  exact ⟨rfl, h.set1 _, Foot.setCell w ⟨b, 1, none⟩ _ rfl⟩

/-- The number that bytes make, the highest first. -/
def num (l : List UInt8) : Nat := l.foldl (fun x c => x * 256 + c.toNat) 0

/-- The number of the first bytes. -/
def rnum (s : ByteArray) (n : Nat) : Nat := num (hd s n).data.toList

theorem num_snoc (l : List UInt8) (c : UInt8) : num (l ++ [c]) = num l * 256 + c.toNat := by simp [num]

theorem num_lt0 {k : Nat} (l : List UInt8) (n : Nat) (h : n < 256 ^ k) : l.foldl (fun x c => x * 256 + c.toNat) n < 256 ^ (k + l.length) := by
  induction l generalizing n k with
  | nil => simpa using h
  | cons c l ih =>
    simp only [List.foldl_cons, List.length_cons]
    have := c.toNat_lt
    have h2 : n * 256 + c.toNat < 256 ^ (k + 1) := by rw [Nat.pow_succ]; omega
    have := ih (k := k + 1) _ h2
    rwa [show k + 1 + l.length = k + (l.length + 1) by omega] at this
theorem num_lt (l : List UInt8) : num l < 256 ^ l.length := by
  have := num_lt0 (k := 0) l 0 (by decide)
  simpa [num] using this

theorem rnum_lt (s : ByteArray) (n : Nat) (h : n ≤ s.size) : rnum s n < 256 ^ n := by
  have := num_lt (hd s n).data.toList
  rwa [show (hd s n).data.toList.length = n from hd_size s n h] at this

theorem take_snoc (s : ByteArray) (k : Nat) (h : k < s.size) : s.data.toList.take (k + 1) = s.data.toList.take k ++ [s[k]] := by
  rw [List.take_succ_eq_append_getElem (by simpa using h)]; rfl

theorem wraps_u32 (n : Int) (h₀ : 0 ≤ n) (h₁ : n < 2 ^ 32) : IntKind.u32.wrap n = n := by rw [IntKind.wrap_u32]; omega

theorem shl_or (x c : Nat) (hx : x < 16777216) (hc : c < 256) : bits .or .u32 ((x : Int) * 256 % 4294967296) ((c : Int) % 4294967296) = ((x * 256 + c : Nat) : Int) := by
  rw [bits_join .u32 32 (by decide) wraps_u32 8 _ _ (by omega) (by omega) (by omega) (by omega) (by omega) (by omega)]
  omega

theorem num_take_lt (t : ByteArray) (k : Nat) (hk : k < 4) : num (t.data.toList.take k) < 16777216 := by
  have h := num_lt (t.data.toList.take k)
  have h2 : (t.data.toList.take k).length ≤ 3 := by have := List.length_take_le k t.data.toList; omega
  have h3 : 256 ^ (t.data.toList.take k).length ≤ 256 ^ 3 := Nat.pow_le_pow_right (by decide) h2
  omega

set_option maxHeartbeats 400000 in
theorem number_any (b : Nat) (s : ByteArray) (z : Int) (n : Nat) (w : World) (hz : z = n) (h : RdAt w b false s) (hn : n ≤ s.size) (hs : s.size ≤ maxLen) (h4 : n ≤ 4) :
    Calls Try.prog 97 #[.pointer (some ⟨b, 0, none⟩), .int .i64 z] w fun e w' => e = .returned (.int .u32 (rnum s n)) ∧ RdAt w' b false (tl s n) ∧ Foot (· = b) w w' := by
  unfold maxLen at hs
  subst hz
  go_enter Try.func97, Try.ntmps97
  go_wp2_with (go_at_call 94; (with_reducible refine (take_any _ _ _ n _ rfl h hn (by unfold maxLen; exact hs)).mono ?_); rintro e w' ⟨rfl, h1, hf⟩)
  have hz := hd_size s n hn
  generalize hT : hd s n = t at *
  have HT := Lib.hid hT; clear hT
  subst hz
  go_loop [5, 13] (fun x i => ∃ k : Nat, k ≤ t.size ∧ i = .int .i64 k ∧ x = .int .u32 (num (t.data.toList.take k))) (fun _ i => t.size - (intOf i).toNat)
  case atStart => exact ⟨0, Nat.zero_le _, rfl, rfl⟩
  case round =>
    obtain ⟨k, hk, rfl, rfl⟩ := hrel
    by_cases hlt : k < t.size
    · go_wp2
      go_round
      case rel => exact ⟨k + 1, by omega, by go_num, by rw [take_snoc t k hlt, num_snoc, shl_or _ _ (num_take_lt t k (by omega)) t[k].toNat_lt]⟩
      case measure => simp [intOf]; omega
    · go_wp2
      go_ret
      exact ⟨by unfold rnum; rw [HT.out]; exact congrArg (fun l => Ending.returned (.int .u32 (num l))) (List.take_of_length_le (by simp; omega)), h1, hf⟩

set_option maxHeartbeats 400000 in
theorem byte_any (b : Nat) (s : ByteArray) (w : World) (h : RdAt w b false s) (hn : 1 ≤ s.size) (hs : s.size ≤ maxLen) :
    Calls Try.prog 93 #[.pointer (some ⟨b, 0, none⟩)] w fun e w' => e = .returned (.int .i64 (rnum s 1)) ∧ RdAt w' b false (tl s 1) ∧ Foot (· = b) w w' := by
  have hlt := rnum_lt s 1 hn
  go_enter Try.func93, Try.ntmps93
  go_wp2_with (go_at_call 97; (with_reducible refine (number_any b s _ 1 _ (by omega) h hn hs (by decide)).mono ?_); rintro e w' ⟨rfl, h1, hf⟩)
  go_ret
  exact ⟨rfl, h1, hf⟩

set_option maxHeartbeats 400000 in
theorem short_any (b : Nat) (s : ByteArray) (w : World) (h : RdAt w b false s) (hn : 2 ≤ s.size) (hs : s.size ≤ maxLen) :
    Calls Try.prog 57 #[.pointer (some ⟨b, 0, none⟩)] w fun e w' => e = .returned (.int .i64 (rnum s 2)) ∧ RdAt w' b false (tl s 2) ∧ Foot (· = b) w w' := by
  have hlt := rnum_lt s 2 hn
  go_enter Try.func57, Try.ntmps57
  go_wp2_with (go_at_call 97; (with_reducible refine (number_any b s _ 2 _ (by omega) h hn hs (by decide)).mono ?_); rintro e w' ⟨rfl, h1, hf⟩)
  go_ret
  exact ⟨rfl, h1, hf⟩

set_option maxHeartbeats 400000 in
theorem word_any (b : Nat) (s : ByteArray) (w : World) (h : RdAt w b false s) (hn : 4 ≤ s.size) (hs : s.size ≤ maxLen) :
    Calls Try.prog 92 #[.pointer (some ⟨b, 0, none⟩)] w fun e w' => e = .returned (.int .u32 (rnum s 4)) ∧ RdAt w' b false (tl s 4) ∧ Foot (· = b) w w' := by
  go_enter Try.func92, Try.ntmps92
  go_wp2_with (go_at_call 97; (with_reducible refine (number_any b s _ 4 _ (by omega) h hn hs (by decide)).mono ?_); rintro e w' ⟨rfl, h1, hf⟩)
  go_ret
  exact ⟨rfl, h1, hf⟩

set_option maxHeartbeats 400000 in
theorem rest_any (b : Nat) (s : ByteArray) (w : World) (h : RdAt w b false s) (hs : s.size ≤ maxLen) :
    Calls Try.prog 95 #[.pointer (some ⟨b, 0, none⟩)] w fun e w' => e = .returned (.string s) ∧ RdAt w' b false ByteArray.empty ∧ Foot (· = b) w w' := by
  go_enter Try.func95, Try.ntmps95
  go_wp2_with (first | (go_at_call 127; (with_reducible refine (left_any _ _ _ h).mono ?_); rintro e w' ⟨rfl, rfl⟩) | (go_at_call 94; (with_reducible refine (take_any _ _ _ _ _ rfl h (Nat.le_refl _) hs).mono ?_); rintro e w' ⟨rfl, h1, hf⟩))
  go_ret
  refine ⟨ret_str (by unfold hd; simp), ?_, hf⟩
  have : tl s s.size = ByteArray.empty := by unfold tl; ext1; simp
  rwa [this] at h1

set_option maxHeartbeats 400000 in
theorem read_any (s : ByteArray) (w : World) :
    Calls Try.prog 48 #[.string s] w fun e w' => e = .returned (.pointer (some ⟨w.heap.size, 0, none⟩)) ∧ w' = w.alloc (.cells #[.bool false, .string s] 168 (0, 0)) := by
  go_enter Try.func48, Try.ntmps48
  go_wp2
  go_ret
  exact ⟨rfl, rfl⟩

end Go.Proofs.Ytcmgfmpmapnckaa
