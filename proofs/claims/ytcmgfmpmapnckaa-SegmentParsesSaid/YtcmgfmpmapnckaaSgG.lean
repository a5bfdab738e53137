/- Walks of the reference's Sum, Of and Pseudo. -/
import Derived.Test.YtcmgfmpmapnckaaSgF
namespace Go.Proofs.Ytcmgfmpmapnckaa
open Go.RowKit
set_option linter.unusedVariables false
set_option linter.unusedSimpArgs false

/-- The reference's sum behind a byte: the sum, whether there was a byte that isn't 0, whether the next place is even. -/
def refB (x : Nat × Bool × Bool) (c : UInt8) : Nat × Bool × Bool := ((x.1 + if x.2.2 then c.toNat * 256 else c.toNat) % 65535, x.2.1 || decide (0 < c.toNat), !x.2.2)
def refL (l : List UInt8) : Nat × Bool × Bool := l.foldl refB (0, false, true)
def refSum (l : List UInt8) : Nat := if (refL l).1 = 0 ∧ (refL l).2.1 = true then 65535 else (refL l).1
theorem refL_snoc (l : List UInt8) (c : UInt8) : refL (l ++ [c]) = refB (refL l) c := by simp [refL]
theorem refL_even0 (l : List UInt8) : ∀ (x : Nat × Bool × Bool), x.1 < 65535 → (l.foldl refB x).1 < 65535 ∧ (l.foldl refB x).2.2 = (if l.length % 2 = 0 then x.2.2 else !x.2.2) := by
  induction l with
  | nil => intro x h; exact ⟨h, by simp⟩
  | cons c l ih =>
    intro x h
    obtain ⟨h1, h2⟩ := ih (refB x c) (Nat.mod_lt _ (by decide))
    refine ⟨h1, ?_⟩
    rw [List.foldl_cons, h2]
    have e : (refB x c).2.2 = !x.2.2 := rfl
    rw [e, List.length_cons]
    by_cases hl : l.length % 2 = 0
    · rw [if_pos hl, if_neg (by omega)]
    · rw [if_neg hl, if_pos (by omega), Bool.not_not]
theorem refL_lt (l : List UInt8) : (refL l).1 < 65535 := (refL_even0 l _ (by decide)).1
theorem refL_even (l : List UInt8) : (refL l).2.2 = decide (l.length % 2 = 0) := by
  rw [refL, (refL_even0 l _ (by decide)).2]
  by_cases h : l.length % 2 = 0 <;> simp [h]

set_option maxHeartbeats 2000000 in
set_option maxRecDepth 100000 in
theorem refSum_any (s : ByteArray) (w : World) (hmax : s.size ≤ maxLen) :
    Calls Try.prog 96 #[.string s] w fun e w' => e = .returned (.int .i64 (refSum s.data.toList : Nat)) ∧ w = w' := by
  unfold maxLen at hmax
  go_enter Try.func96, Try.ntmps96
  go_wp2
  go_loop [3, 4, 5] (fun n b i => ∃ k : Nat, k ≤ s.size ∧ i = .int .i64 k ∧ n = .int .i64 ((refL (s.data.toList.take k)).1 : Nat) ∧ b = .bool (refL (s.data.toList.take k)).2.1) (fun _ _ i => s.size - (intOf i).toNat)
  case atStart => exact ⟨0, Nat.zero_le _, rfl, rfl, rfl⟩
  case round =>
    obtain ⟨k, hk, rfl, rfl, rfl⟩ := hrel
    have hlt' := refL_lt (s.data.toList.take k)
    have hev := refL_even (s.data.toList.take k)
    have hlen : (s.data.toList.take k).length = k := by rw [List.length_take, toList_size]; omega
    rw [hlen] at hev
    by_cases hlt : k < s.size
    · have ht := take_snoc s k hlt
      have hsn : refL (s.data.toList.take (k + 1)) = refB (refL (s.data.toList.take k)) s[k] := by rw [ht, refL_snoc]
      have HS := Lib.hid hsn; clear hsn ht hlen
      have hc := s[k].toNat_lt
      have hci : ((s[k].toNat : Nat) : Int) < 256 := by omega
      generalize refL (s.data.toList.take k) = x at *
      obtain ⟨x1, x2, x3⟩ := x
      simp only at hlt' hev
      have HE := Lib.hid hev; clear hev
      generalize hcv : s[k] = c at *
      have hcv' := Lib.hid hcv
      have HC : Hid (refB (x1, x2, x3) c = ((x1 + if x3 then c.toNat * 256 else c.toNat) % 65535, x2 || decide (0 < c.toNat), !x3)) := rfl
      by_cases he : k % 2 = 0
      · have e1 : (((k : Int) % 2) == 0) = true := by simp; omega
        have e2 : (k % 2 == 0) = true := by simp [he]
        have hx3 : x3 = true := by rw [HE.out]; simp [he]
        cases x2
        all_goals
          go_wp2
          go_round
          case rel =>
            refine ⟨k + 1, by omega, by go_num, ?_, ?_⟩
            · rw [HS.out, HC.out, hx3]; simp
            · rw [HS.out, HC.out]; simp
          case measure => simp [intOf]; omega
      · have e1 : (((k : Int) % 2) == 0) = false := by simp; omega
        have e2 : (k % 2 == 0) = false := by simp [he]
        have hx3 : x3 = false := by rw [HE.out]; simp [he]
        cases x2
        all_goals
          go_wp2
          go_round
          case rel =>
            refine ⟨k + 1, by omega, by go_num, ?_, ?_⟩
            · rw [HS.out, HC.out, hx3]; simp
            · rw [HS.out, HC.out]; simp
          case measure => simp [intOf]; omega
    · have e : k = s.size := by omega
      have hfull : s.data.toList.take k = s.data.toList := List.take_of_length_le (by rw [toList_size]; omega)
      rw [hfull] at hlt' ⊢
      have HR : Hid (refSum s.data.toList = if (refL s.data.toList).1 = 0 ∧ (refL s.data.toList).2.1 = true then 65535 else (refL s.data.toList).1) := rfl
      generalize refL s.data.toList = x at *
      obtain ⟨x1, x2, x3⟩ := x
      clear hev hlen hfull
      have hlt2 : x1 < 65535 := hlt'
      clear hlt'
      by_cases h0 : x1 = 0
      · subst h0
        cases x2
        · go_wp2
          go_ret
          exact ⟨by rw [HR.out]; simp, rfl⟩
        · go_wp2
          go_ret
          exact ⟨by rw [HR.out]; simp, rfl⟩
      · have h1 : ((x1 : Int) == 0) = false := by simp; omega
        have H0 := Lib.hid h0; clear h0
        go_wp2
        go_ret
        exact ⟨by rw [HR.out]; simp [H0.out], rfl⟩

theorem refSum_le (l : List UInt8) : refSum l ≤ 65535 := by
  have := refL_lt l
  unfold refSum
  split <;> omega

set_option maxHeartbeats 2000000 in
set_option maxRecDepth 100000 in
theorem refOf_any (s : ByteArray) (w : World) (hmax : s.size ≤ maxLen) :
    Calls Try.prog 54 #[.string s] w fun e w' => e = .returned (.int .i64 (65535 - refSum s.data.toList : Nat)) ∧ w = w' := by
  have hle := refSum_le s.data.toList
  have hcall := fun w => refSum_any s w hmax
  generalize refSum s.data.toList = r at *
  have HC := Lib.hid hcall; clear hcall
  go_enter Try.func54, Try.ntmps54
  go_wp2_with (go_at_call 96; (with_reducible refine (HC.out _).mono ?_); rintro e w1 ⟨rfl, rfl⟩)
  go_ret
  exact ⟨ret_int (by omega), rfl⟩

theorem pseudoNums (src dst : Nat) (proto size : Int) (h1 : src < 4294967296) (h2 : dst < 4294967296) :
    strOfNums [(src : Int) / 16777216, (src : Int) / 65536 % 256, (src : Int) / 256 % 256, (src : Int) % 256, (dst : Int) / 16777216, (dst : Int) / 65536 % 256, (dst : Int) / 256 % 256, (dst : Int) % 256, 0, proto % 256, size / 256 % 256, size % 256] = ⟨(pseudo src dst proto size).toArray⟩ := by
  have a1 : ((src : Int) / 16777216).toNat = src / 16777216 := by omega
  have a2 : ((src : Int) / 65536 % 256).toNat = src / 65536 % 256 := by omega
  have a3 : ((src : Int) / 256 % 256).toNat = src / 256 % 256 := by omega
  have a4 : ((src : Int) % 256).toNat = src % 256 := by omega
  have b1 : ((dst : Int) / 16777216).toNat = dst / 16777216 := by omega
  have b2 : ((dst : Int) / 65536 % 256).toNat = dst / 65536 % 256 := by omega
  have b3 : ((dst : Int) / 256 % 256).toNat = dst / 256 % 256 := by omega
  have b4 : ((dst : Int) % 256).toNat = dst % 256 := by omega
  have c1 : (size / 256 % 256).toNat = (size % 65536).toNat / 256 := by omega
  have c2 : (size % 256).toNat = (size % 65536).toNat % 256 := by omega
  simp [strOfNums, pseudo, beAll, be, a1, a2, a3, a4, b1, b2, b3, b4, c1, c2, byteNat]

set_option maxHeartbeats 2000000 in
set_option maxRecDepth 100000 in
theorem refPseudo_any (src dst : Nat) (proto size : Int) (w : World) (h1 : src < 4294967296) (h2 : dst < 4294967296) :
    Calls Try.prog 55 #[.int .u32 src, .int .u32 dst, .int .i64 proto, .int .i64 size] w fun e w' => e = .returned (.string ⟨(pseudo src dst proto size).toArray⟩) ∧ Foot (fun _ => False) w w' := by
  have hnum := pseudoNums src dst proto size h1 h2
  have HN := Lib.hid hnum; clear hnum
  go_enter Try.func55, Try.ntmps55
  go_wp2
  rw [convNew w [(src : Int) / 16777216, (src : Int) / 65536 % 256, (src : Int) / 256 % 256, (src : Int) % 256, (dst : Int) / 16777216, (dst : Int) / 65536 % 256, (dst : Int) / 256 % 256, (dst : Int) % 256, 0, proto % 256, size / 256 % 256, size % 256] 12 rfl _ (by simp)]
  simp only [Result.andThen]
  rw [Oper.upon_value]
  go_wp2
  go_ret
  exact ⟨ret_str HN.out, Foot.alloc _ _ _⟩

end Go.Proofs.Ytcmgfmpmapnckaa
