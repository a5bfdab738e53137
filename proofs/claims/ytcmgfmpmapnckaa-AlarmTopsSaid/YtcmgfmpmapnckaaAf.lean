/- The document's example of layer 37: Right, Find, awake. -/
import Derived.Test.YtcmgfmpmapnckaaAe
namespace Go.Proofs.Ytcmgfmpmapnckaa
open Go.Shelf Go.RowKit Go.Lib Go.Sort
set_option linter.unusedVariables false
set_option linter.unusedSimpArgs false

def wv7 : Value := .agg #[.int .i64 6, .int .i64 1, .int .i64 3, .int .i64 5]

set_option maxHeartbeats 4000000 in
set_option maxRecDepth 100000 in
theorem right7 (w : World) : Calls Try.prog 130 #[.agg #[.int .i64 6, .int .i64 1, .int .i64 3, .int .i64 5]] w fun e w' => e = .returned (.bool true) ∧ Below w.heap.size w w' := by
  have hin := fun n lo hi W => in_any n lo hi W
  have hF : Below w.heap.size w (w.alloc (.cells #[.int .i64 6, .int .i64 1, .int .i64 3, .int .i64 5] 123)) := (Below.refl _ _).alloc (Nat.le_refl _) _
  have HF := Lib.hid hF
  clear hF
  go_enter Try.func130, Try.ntmps130
  go_wp2_with (go_at_call 59; refine (hin _ _ _ _).mono ?_; rintro e w1 ⟨rfl, rfl⟩)
  go_ret
  exact ⟨ret_bool (by simp), HF.out⟩

theorem bad7 (w : World) : Calls Try.prog 129 #[.agg #[.int .i64 6, .int .i64 1, .int .i64 3, .int .i64 5]] w fun e w' => e = .returned (.bool false) ∧ Below w.heap.size w w' := by
  have h1 := fun W => right7 W
  go_enter Try.func129, Try.ntmps129
  go_wp2_with (go_at_call 130; refine (h1 _).mono ?_; rintro e w1 ⟨rfl, hf1⟩)
  go_ret
  exact ⟨ret_bool (by simp), ((Below.refl _ _).alloc (Nat.le_refl _) _).trans (hf1.mono (by simp))⟩

set_option maxHeartbeats 2000000 in
theorem index7 (x : Nat) (w : World) (h : w.heap[x]? = some (.cells #[.int .i64 6, .int .i64 1, .int .i64 3, .int .i64 5] 123 (0, 0))) :
    Calls Try.prog 145 #[.slice (some ⟨x, 0, none⟩) 1 1, .func (.func 129) #[] #[]] w fun e w' => e = .returned (.int .i64 (-1)) ∧ Below w.heap.size w w' := by
  have h1 := fun W => bad7 W
  have eg : ∀ args w, (callFunc 129 args).run Try.prog w = .ok (.enter 129 args) w := enters_of Try.func129 (by kernel_rfl) rfl
  have c0 : w.cell? ⟨x, 0, none⟩ = some (.int .i64 6) := (blk_cell h 0).trans rfl
  have c1 : w.cell? ⟨x, 1, none⟩ = some (.int .i64 1) := (blk_cell h 1).trans rfl
  have c2 : w.cell? ⟨x, 2, none⟩ = some (.int .i64 3) := (blk_cell h 2).trans rfl
  have c3 : w.cell? ⟨x, 3, none⟩ = some (.int .i64 5) := (blk_cell h 3).trans rfl
  clear h
  go_enter Try.func145, Try.ntmps145
  go_wp2
  go_loopg [8] 1 (fun kx s8 wr => ∃ i : Nat, s8 = .int .i64 i ∧ i ≤ 1 ∧ 1 - i ≤ kx ∧ (i = 0 → wr = w) ∧ Aside (Below w.heap.size w wr))
  case atStart => exact ⟨0, rfl, by omega, by omega, fun _ => rfl, Below.refl _ _⟩
  case round =>
    obtain ⟨i, rfl, hi, hkx, h0, HF⟩ := hrel
    by_cases hlt : i < 1
    · obtain rfl : i = 0 := by omega
      obtain rfl := h0 rfl
      go_wp2_with (go_at_fn 129; refine (h1 _).mono ?_; rintro e w1 ⟨rfl, hf1⟩)
      go_roundg 0
      case measure => omega
      case rel => exact ⟨1, by go_num, by omega, by omega, fun h => absurd h (by omega), hf1⟩
    · obtain rfl : i = 1 := by omega
      go_wp2
      go_ret
      exact ⟨rfl, HF.out⟩

theorem rightAll7 (x : Nat) (w : World) (h : w.heap[x]? = some (.cells #[.int .i64 6, .int .i64 1, .int .i64 3, .int .i64 5] 123 (0, 0))) :
    Calls Try.prog 98 #[.slice (some ⟨x, 0, none⟩) 1 1] w fun e w' => e = .returned (.bool true) ∧ Below w.heap.size w w' := by
  have h1 := index7 x w h
  have h2 : Calls Try.prog 128 #[.slice (some ⟨x, 0, none⟩) 1 1, .func (.func 129) #[] #[]] w fun e w' => e = .returned (.bool false) ∧ Below w.heap.size w w' := by
    go_enter Try.func128, Try.ntmps128
    go_wp2_with (go_at_call 145; refine h1.mono ?_; rintro e w1 ⟨rfl, hf1⟩)
    go_ret
    exact ⟨ret_bool (by simp), hf1⟩
  clear h1
  go_enter Try.func98, Try.ntmps98
  go_wp2_with (go_at_call 128; refine h2.mono ?_; rintro e w1 ⟨rfl, hf1⟩)
  go_ret
  exact ⟨ret_bool (by simp), hf1⟩

end Go.Proofs.Ytcmgfmpmapnckaa
