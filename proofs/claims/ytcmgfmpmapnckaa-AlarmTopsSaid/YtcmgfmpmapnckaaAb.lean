/- Walks of package alarm, the small functions. -/
import Derived.Test.YtcmgfmpmapnckaaAp
import Derived.Test.YtcmgfmpmapnckaaHtG
import Derived.Laws.EntriesVeiled
namespace Go.Proofs.Ytcmgfmpmapnckaa
open Go.Shelf Go.RowKit Go.Lib Go.Sort
set_option linter.unusedVariables false
set_option linter.unusedSimpArgs false

structure Ln where
  time : Int
  reason : Int
  key : Ky
instance : Inhabited Ln := ⟨⟨0, 0, default⟩⟩
def encL (x : Ln) : List Value := [.int .i64 x.time, .int .i64 x.reason, .int .u32 x.key.src, .int .u32 x.key.dst, .int .i64 x.key.proto, .int .i64 x.key.sport, .int .i64 x.key.dport]
def valL (x : Ln) : Value := .agg #[.int .i64 x.time, .int .i64 x.reason, .int .u32 x.key.src, .int .u32 x.key.dst, .int .i64 x.key.proto, .int .i64 x.key.sport, .int .i64 x.key.dport]

theorem in_any (n lo hi : Int) (w : World) : Calls Try.prog 59 #[.int .i64 n, .int .i64 lo, .int .i64 hi] w fun e w' => e = .returned (.bool (decide (lo ≤ n) && decide (n ≤ hi))) ∧ w = w' := by
  by_cases h : lo ≤ n
  · go_enter Try.func59, Try.ntmps59
    go_wp2
    go_ret
    exact ⟨ret_bool (by simp [h]), rfl⟩
  · go_enter Try.func59, Try.ntmps59
    go_wp2
    go_ret
    exact ⟨ret_bool (by rw [decide_eq_false (show ¬ lo ≤ n by omega)]; rfl), rfl⟩

/-- What a line is put together by. -/
def keyBy (by_ : Int) (x : Ky) : Ky := if by_ = 1 then ⟨x.src, 0, 0, 0, 0⟩ else if by_ = 2 then ⟨0, x.dst, 0, 0, 0⟩ else if by_ = 3 then x else ⟨0, 0, 0, 0, 0⟩
def fnBy (by_ : Int) : Nat := if by_ = 1 then 100 else if by_ = 2 then 101 else if by_ = 3 then 102 else 103

theorem key100 (x : Ln) (w : World) : Calls Try.prog 100 #[valL x] w fun e w' => e = .returned (valK ⟨x.key.src, 0, 0, 0, 0⟩) ∧ Below w.heap.size w w' := by
  unfold valL
  go_enter Try.func100, Try.ntmps100
  go_wp2
  exact bodyPost_ret (v := valK ⟨x.key.src, 0, 0, 0, 0⟩) (by simp [results, Try.results100, go_sem, valK]) rfl ⟨rfl, ((Below.refl _ _).alloc (Nat.le_refl _) _).alloc (by simp) _⟩
theorem key101 (x : Ln) (w : World) : Calls Try.prog 101 #[valL x] w fun e w' => e = .returned (valK ⟨0, x.key.dst, 0, 0, 0⟩) ∧ Below w.heap.size w w' := by
  unfold valL
  go_enter Try.func101, Try.ntmps101
  go_wp2
  exact bodyPost_ret (v := valK ⟨0, x.key.dst, 0, 0, 0⟩) (by simp [results, Try.results101, go_sem, valK]) rfl ⟨rfl, ((Below.refl _ _).alloc (Nat.le_refl _) _).alloc (by simp) _⟩
theorem key102 (x : Ln) (w : World) : Calls Try.prog 102 #[valL x] w fun e w' => e = .returned (valK x.key) ∧ Below w.heap.size w w' := by
  unfold valL
  go_enter Try.func102, Try.ntmps102
  go_wp2
  exact bodyPost_ret (v := valK x.key) (by simp [results, Try.results102, go_sem, valK]) rfl ⟨rfl, ((Below.refl _ _).alloc (Nat.le_refl _) _).alloc (by simp) _⟩
theorem key103 (x : Ln) (w : World) : Calls Try.prog 103 #[valL x] w fun e w' => e = .returned (valK ⟨0, 0, 0, 0, 0⟩) ∧ Below w.heap.size w w' := by
  unfold valL
  go_enter Try.func103, Try.ntmps103
  go_wp2
  exact bodyPost_ret (v := valK ⟨0, 0, 0, 0, 0⟩) (by simp [results, Try.results103, go_sem, valK]) rfl ⟨rfl, ((Below.refl _ _).alloc (Nat.le_refl _) _).alloc (by simp) _⟩

theorem key_any (b : Int) (x : Ln) (w : World) : Calls Try.prog (fnBy b) #[valL x] w fun e w' => e = .returned (valK (keyBy b x.key)) ∧ Below w.heap.size w w' := by
  unfold fnBy keyBy
  by_cases h1 : b = 1
  · rw [if_pos h1, if_pos h1]; exact key100 x w
  · rw [if_neg h1, if_neg h1]
    by_cases h2 : b = 2
    · rw [if_pos h2, if_pos h2]; exact key101 x w
    · rw [if_neg h2, if_neg h2]
      by_cases h3 : b = 3
      · rw [if_pos h3, if_pos h3]; exact key102 x w
      · rw [if_neg h3, if_neg h3]; exact key103 x w

theorem by_any (b : Int) (w : World) : Calls Try.prog 60 #[.int .i64 b] w fun e w' => e = .returned (.agg #[.func (.func (fnBy b)) #[] #[]]) ∧ Below w.heap.size w w' := by
  unfold fnBy
  by_cases h1 : b = 1
  · rw [if_pos h1]
    subst h1
    go_enter Try.func60, Try.ntmps60
    go_wp2
    exact bodyPost_ret (v := .agg #[.func (.func 100) #[] #[]]) (by simp [results, Try.results60, go_sem]) rfl ⟨rfl, ((Below.refl _ _).alloc (Nat.le_refl _) _)⟩
  · rw [if_neg h1]
    have e1 : (b == 1) = false := by rw [beq_eq_false_iff_ne]; exact h1
    by_cases h2 : b = 2
    · rw [if_pos h2]
      subst h2
      go_enter Try.func60, Try.ntmps60
      go_wp2
      exact bodyPost_ret (v := .agg #[.func (.func 101) #[] #[]]) (by simp [results, Try.results60, go_sem]) rfl ⟨rfl, ((Below.refl _ _).alloc (Nat.le_refl _) _)⟩
    · rw [if_neg h2]
      have e2 : (b == 2) = false := by rw [beq_eq_false_iff_ne]; exact h2
      by_cases h3 : b = 3
      · rw [if_pos h3]
        subst h3
        go_enter Try.func60, Try.ntmps60
        go_wp2
        exact bodyPost_ret (v := .agg #[.func (.func 102) #[] #[]]) (by simp [results, Try.results60, go_sem]) rfl ⟨rfl, ((Below.refl _ _).alloc (Nat.le_refl _) _)⟩
      · rw [if_neg h3]
        have e3 : (b == 3) = false := by rw [beq_eq_false_iff_ne]; exact h3
        go_enter Try.func60, Try.ntmps60
        go_wp2
        exact bodyPost_ret (v := .agg #[.func (.func 103) #[] #[]]) (by simp [results, Try.results60, go_sem]) rfl ⟨rfl, ((Below.refl _ _).alloc (Nat.le_refl _) _)⟩

theorem run_eql48 (x y : Ky) (w : World) : (binOp .eql 48 (valK x) (valK y)).run Try.prog w = .ok (.bool (decide (x = y))) w := by
  have h := equalIn48 x y w
  unfold valK at *
  rw [run_eql_struct, h]; rfl
theorem run_neq48 (x y : Ky) (w : World) : (binOp .neq 48 (valK x) (valK y)).run Try.prog w = .ok (.bool (!decide (x = y))) w := by
  have h := equalIn48 x y w
  unfold valK at *
  rw [run_neq_struct, h]; rfl
theorem guard48 (op : BinOp) (a b : Operand) (x y : Ky) (w : World) : (eqGuard op 48 a b (valK x) (valK y)).run Try.prog w = .ok () w := by
  unfold valK
  exact run_eqGuard_agg w op 48 a b _ _ (by kernel_rfl)

set_option maxHeartbeats 1000000 in
theorem same_any (b : Int) (x y : Ln) (w : World) (h0 : 0 ≤ b) (h3 : b ≤ 3) :
    Calls Try.prog 22 #[valL x, valL y, .int .i64 b] w fun e w' => e = .returned (.bool (decide (keyBy b x.key = keyBy b y.key))) ∧ Below w.heap.size w w' := by
  have hF : Below w.heap.size w ((w.alloc (.cells #[.int .i64 x.time, .int .i64 x.reason, .int .u32 x.key.src, .int .u32 x.key.dst, .int .i64 x.key.proto, .int .i64 x.key.sport, .int .i64 x.key.dport] 50)).alloc (.cells #[.int .i64 y.time, .int .i64 y.reason, .int .u32 y.key.src, .int .u32 y.key.dst, .int .i64 y.key.proto, .int .i64 y.key.sport, .int .i64 y.key.dport] 50)) :=
    ((Below.refl _ _).alloc (Nat.le_refl _) _).alloc (by simp) _
  have HF := Lib.hid hF
  clear hF
  have hE := run_eql48 x.key y.key
  have hG := fun op a b w => guard48 op a b x.key y.key w
  unfold valK at hE hG
  unfold valL
  by_cases e0 : b = 0
  · subst e0
    have hr : decide (keyBy 0 x.key = keyBy 0 y.key) = true := by simp [keyBy]
    rw [hr]; clear hr
    go_enter Try.func22, Try.ntmps22
    go_wp2
    go_ret
    exact ⟨rfl, HF.out⟩
  have f0 : (b == 0) = false := by rw [beq_eq_false_iff_ne]; exact e0
  by_cases e1 : b = 1
  · subst e1
    have hr : decide (keyBy 1 x.key = keyBy 1 y.key) = (x.key.src == y.key.src) := by
      rw [Bool.eq_iff_iff]; simp [keyBy]
    rw [hr]; clear hr
    go_enter Try.func22, Try.ntmps22
    go_wp2
    go_ret
    exact ⟨rfl, HF.out⟩
  have f1 : (b == 1) = false := by rw [beq_eq_false_iff_ne]; exact e1
  by_cases e2 : b = 2
  · subst e2
    have hr : decide (keyBy 2 x.key = keyBy 2 y.key) = (x.key.dst == y.key.dst) := by
      rw [Bool.eq_iff_iff]; simp [keyBy]
    rw [hr]; clear hr
    go_enter Try.func22, Try.ntmps22
    go_wp2
    go_ret
    exact ⟨rfl, HF.out⟩
  have f2 : (b == 2) = false := by rw [beq_eq_false_iff_ne]; exact e2
  obtain rfl : b = 3 := by omega
  have hr : decide (keyBy 3 x.key = keyBy 3 y.key) = decide (x.key = y.key) := rfl
  rw [hr]; clear hr
  go_enter Try.func22, Try.ntmps22
  go_wp2
  go_ret
  exact ⟨rfl, HF.out⟩

theorem compareG (a b : Int) (w : World) : Calls Try.prog 63 #[.int .i64 a, .int .i64 b] w fun e w' => e = .returned (.int .i64 (cmpJ a b)) ∧ w = w' := by
  have hN : ∀ x W, Calls Try.prog 105 #[.int .i64 x] W fun e w' => e = .returned (.bool false) ∧ W = w' := by
    intro x W
    go_enter Try.func105, Try.ntmps105
    go_wp2
    go_ret
    exact ⟨ret_bool (by simp), rfl⟩
  by_cases h1 : a < b
  · have hr : cmpJ a b = -1 := if_pos h1
    rw [hr]; clear hr
    go_enter Try.func63, Try.ntmps63
    go_wp2_with (go_at_call 105; refine (hN _ _).mono ?_; rintro e w1 ⟨rfl, rfl⟩)
    go_ret
    exact ⟨rfl, rfl⟩
  · by_cases h2 : b < a
    · have hr : cmpJ a b = 1 := by rw [cmpJ, if_neg h1, if_pos h2]
      rw [hr]; clear hr
      go_enter Try.func63, Try.ntmps63
      go_wp2_with (go_at_call 105; refine (hN _ _).mono ?_; rintro e w1 ⟨rfl, rfl⟩)
      go_ret
      exact ⟨rfl, rfl⟩
    · have hr : cmpJ a b = 0 := by rw [cmpJ, if_neg h1, if_neg h2]
      rw [hr]; clear hr
      go_enter Try.func63, Try.ntmps63
      go_wp2_with (go_at_call 105; refine (hN _ _).mono ?_; rintro e w1 ⟨rfl, rfl⟩)
      go_ret
      exact ⟨rfl, rfl⟩

def valG (x : Gr) : Value := .agg #[.int .u32 x.key.src, .int .u32 x.key.dst, .int .i64 x.key.proto, .int .i64 x.key.sport, .int .i64 x.key.dport, .int .i64 x.many]
theorem cmpG_any (x y : Gr) (W : World) : Calls Try.prog 62 #[valG x, valG y] W fun e w' => e = .returned (.int .i64 (cfG x y)) ∧ ∃ q os', w' = grow (W.drewN q) os' := by
  have hC := fun W => compareG y.many x.many W
  unfold cfG valG
  go_enter Try.func62, Try.ntmps62
  go_wp2_with (go_at_call 63; refine (hC _).mono ?_; rintro e w1 ⟨rfl, rfl⟩)
  go_ret
  exact ⟨rfl, 0, #[.cells #[.int .u32 x.key.src, .int .u32 x.key.dst, .int .i64 x.key.proto, .int .i64 x.key.sport, .int .i64 x.key.dport, .int .i64 x.many] 57, .cells #[.int .u32 y.key.src, .int .u32 y.key.dst, .int .i64 y.key.proto, .int .i64 y.key.sport, .int .i64 y.key.dport, .int .i64 y.many] 57], rfl⟩
theorem cmpLaysG (blk off size : Nat) (w : World) : CmpLays Try.prog 62 #[] encG 6 cfG blk off size w := fun m os dk hs x y => cmpG_any x y _
theorem encG_len (x : Gr) : (encG x).length = 6 := rfl
theorem encG_one : ∀ x, ∀ v ∈ encG x, v.oneCell' = true := by
  intro x v hv
  simp only [encG, List.mem_cons, List.not_mem_nil, or_false] at hv
  rcases hv with rfl | rfl | rfl | rfl | rfl | rfl <;> rfl

end Go.Proofs.Ytcmgfmpmapnckaa
