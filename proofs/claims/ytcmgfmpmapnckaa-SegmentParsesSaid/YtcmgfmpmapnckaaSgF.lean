/- Walks of the reference's check sums and of small functions of the reference for segments. -/
import Derived.Test.YtcmgfmpmapnckaaSgT
import Derived.Laws.BytesArg
namespace Go.Proofs.Ytcmgfmpmapnckaa
open Go.RowKit
set_option linter.unusedVariables false
set_option linter.unusedSimpArgs false

/-- Bytes in a new row, as a string. -/
theorem convNew (w : World) (xs : List Int) (n : Nat) (hn : xs.length = n) (cs : Array Value) (hcs : cs = (xs.map (Value.int .u8)).toArray) :
    (convert 35 9 (.slice (some ⟨w.heap.size, 0, none⟩) n n)).run Try.prog (w.alloc (.cells cs 5)) = .ok (.string (strOfNums xs)) (w.alloc (.cells cs 5)) := by
  subst hcs hn
  refine run_convert_bytes_arg _ 35 5 Try.underlying35 Try.underlying5 w.heap.size 0 xs.length xs.length xs rfl ?_ 9 Try.underlying9
  intro i hi
  rw [blk_cell (blk_new w _) (0 + i)]
  simp [hi]

theorem byteNat (n : Nat) : UInt8.ofNat (n % 256) = UInt8.ofNat n := by
  apply UInt8.toNat_inj.1; simp

theorem be2 (n : Nat) (h : n ≤ 65535) : strOfNums [(n : Int) / 256, (n : Int) % 256] = ⟨(be 2 n).toArray⟩ := by
  have h1 : ((n : Int) / 256).toNat = n / 256 := by omega
  have h2 : ((n : Int) % 256).toNat = n % 256 := by omega
  simp [strOfNums, be, h1, h2, byteNat]
theorem be4 (n : Nat) (h : n < 4294967296) : strOfNums [(n : Int) / 16777216, (n : Int) / 65536 % 256, (n : Int) / 256 % 256, (n : Int) % 256] = ⟨(be 4 n).toArray⟩ := by
  have h1 : ((n : Int) / 16777216).toNat = n / 16777216 := by omega
  have h2 : ((n : Int) / 65536 % 256).toNat = n / 65536 % 256 := by omega
  have h3 : ((n : Int) / 256 % 256).toNat = n / 256 % 256 := by omega
  have h4 : ((n : Int) % 256).toNat = n % 256 := by omega
  simp [strOfNums, be, h1, h2, h3, h4, byteNat]

set_option maxHeartbeats 1000000 in
set_option maxRecDepth 100000 in
theorem refShort_any (n : Nat) (z : Int) (hz : z = n) (w : World) (h : n ≤ 65535) :
    Calls Try.prog 52 #[.int .i64 z] w fun e w' => e = .returned (.string ⟨(be 2 n).toArray⟩) ∧ Foot (fun _ => False) w w' := by
  subst hz
  go_enter Try.func52, Try.ntmps52
  go_wp2
  rw [convNew w [(n : Int) / 256, (n : Int) % 256] 2 rfl _ (by simp)]
  simp only [Result.andThen]
  rw [Oper.upon_value]
  go_wp2
  go_ret
  exact ⟨ret_str (be2 n h), Foot.alloc _ _ _⟩

set_option maxHeartbeats 1000000 in
set_option maxRecDepth 100000 in
theorem refWord_any (n : Nat) (z : Int) (hz : z = n) (w : World) (h : n < 4294967296) :
    Calls Try.prog 53 #[.int .u32 z] w fun e w' => e = .returned (.string ⟨(be 4 n).toArray⟩) ∧ Foot (fun _ => False) w w' := by
  subst hz
  go_enter Try.func53, Try.ntmps53
  go_wp2
  rw [convNew w [(n : Int) / 16777216, (n : Int) / 65536 % 256, (n : Int) / 256 % 256, (n : Int) % 256] 4 rfl _ (by simp)]
  simp only [Result.andThen]
  rw [Oper.upon_value]
  go_wp2
  go_ret
  exact ⟨ret_str (be4 n h), Foot.alloc _ _ _⟩

set_option maxHeartbeats 1000000 in
set_option maxRecDepth 100000 in
theorem refShortAt_any (s : ByteArray) (i : Nat) (z : Int) (hz : z = i) (w : World) (h : i + 2 ≤ s.size) (hmax : s.size ≤ maxLen) :
    Calls Try.prog 56 #[.string s, .int .i64 z] w fun e w' => e = .returned (.int .i64 (256 * (s[i]!).toNat + (s[i + 1]!).toNat : Nat)) ∧ ∃ n, w' = w.drewN n := by
  subst hz
  unfold maxLen at hmax
  have h1 : i < s.size := by omega
  have h2 : i + 1 < s.size := by omega
  have j1 : (i : Int) < s.size := by omega
  have j2 : (i : Int) + 1 < s.size := by omega
  have j0 : (0 : Int) ≤ (i : Int) := by omega
  have j3 : (0 : Int) ≤ (i : Int) + 1 := by omega
  have j4 : IntKind.i64.wrap ((i : Int) + 1) = (i : Int) + 1 := IntWalk.i64_in _ (by omega)
  have j5 : ((i : Int) + 1).toNat = i + 1 := by omega
  go_enter Try.func56, Try.ntmps56
  go_wp2
  go_quiet (fail)
  go_wp2
  go_ret
  have g1 : s[i]! = s[i] := by simp [h1]
  have g2 : s[i + 1]! = s[i + 1] := by simp [h2]
  have b1 := s[i].toNat_lt
  have b2 := s[i + 1].toNat_lt
  refine ⟨ret_int ?_, ⟨_, rfl⟩⟩
  rw [g1, g2]
  unfold wrap64
  omega

end Go.Proofs.Ytcmgfmpmapnckaa
