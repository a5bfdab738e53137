/- The stable sort in plain Lean, part two: blocks that are sorted, and merged in pairs. -/
import Derived.Test.YtcmgfmpmapnckaaSt
namespace Go.Proofs.Ytcmgfmpmapnckaa
open Go.RowKit Go.Sort
set_option linter.unusedVariables false
set_option linter.unusedSimpArgs false
variable {α : Type} [Inhabited α] {lt : α → α → Bool}

theorem sorted_of_eq {a b a' b' : Nat} {d d' : Array α} (h : SortedIn lt a b d) (ha : a ≤ a') (hb : b' ≤ b) (e : ∀ i, a' ≤ i → i < b' → d'[i]! = d[i]!) : SortedIn lt a' b' d' := by
  intro i j i0 ij j1
  rw [e i i0 (by omega), e j (by omega) j1]
  exact h i j (by omega) ij (by omega)

/-- Blocks of s are sorted. -/
def Runs (lt : α → α → Bool) (s n : Nat) (d : Array α) : Prop := ∀ p, SortedIn lt (p * s) (min (p * s + s) n) d
/-- The first q blocks of s are sorted. -/
def RunsTo (lt : α → α → Bool) (s q : Nat) (d : Array α) : Prop := ∀ p, p < q → SortedIn lt (p * s) (p * s + s) d
/-- The first q blocks of 2 s are sorted, and behind them those of s. -/
def Half (lt : α → α → Bool) (s n q : Nat) (d : Array α) : Prop := RunsTo lt (s + s) q d ∧ ∀ p, 2 * q ≤ p → SortedIn lt (p * s) (min (p * s + s) n) d

theorem mul_lt_of {p q s : Nat} (h : p < q) : p * s + s ≤ q * s := by
  have := Nat.mul_le_mul_right s (show p + 1 ≤ q from h)
  rwa [Nat.succ_mul] at this
theorem two_mul_q (q s : Nat) : 2 * q * s = q * (s + s) := by
  rw [Nat.mul_add, Nat.mul_assoc, Nat.two_mul]

theorem runsTo_zero (s : Nat) (d : Array α) : RunsTo lt s 0 d := fun p h => absurd h (Nat.not_lt_zero _)
theorem runsTo_succ {s q : Nat} {d d' : Array α} (h : RunsTo lt s q d) (hs : q * s + s ≤ d.size) (hM : Merged lt (q * s) (q * s + s) d d') : RunsTo lt s (q + 1) d' := by
  intro p hp
  by_cases hpq : p = q
  · subst hpq; exact hM.2
  · have := mul_lt_of (s := s) (show p < q by omega)
    exact sorted_of_eq (h p (by omega)) (Nat.le_refl _) (Nat.le_refl _) (fun i i0 i1 => hM.1.1.2.1 i (by omega))
theorem runs_of {s q n : Nat} {d d' : Array α} (h : RunsTo lt s q d) (hq : q * s ≤ n) (hn : n < q * s + s) (hs : n ≤ d.size) (hM : Merged lt (q * s) n d d') : Runs lt s n d' := by
  intro p
  rcases Nat.lt_trichotomy p q with hp | rfl | hp
  · have := mul_lt_of (s := s) hp
    rw [Nat.min_eq_left (by omega)]
    exact sorted_of_eq (h p hp) (Nat.le_refl _) (Nat.le_refl _) (fun i i0 i1 => hM.1.1.2.1 i (by omega))
  · rw [Nat.min_eq_right (by omega)]; exact hM.2
  · have := mul_lt_of (s := s) hp
    rw [Nat.min_eq_right (by omega)]
    intro i j i0 ij j1; omega
theorem half_zero {s n : Nat} {d : Array α} (h : Runs lt s n d) : Half lt s n 0 d := ⟨runsTo_zero _ _, fun p _ => h p⟩
theorem half_left {s n q : Nat} {d : Array α} (h : Half lt s n q d) (hn : q * (s + s) + s ≤ n) : SortedIn lt (q * (s + s)) (q * (s + s) + s) d := by
  have := h.2 (2 * q) (Nat.le_refl _)
  rwa [two_mul_q, Nat.min_eq_left hn] at this
theorem half_right {s n q : Nat} {d : Array α} (h : Half lt s n q d) : SortedIn lt (q * (s + s) + s) (min (q * (s + s) + (s + s)) n) d := by
  have := h.2 (2 * q + 1) (by omega)
  rwa [Nat.succ_mul, two_mul_q, Nat.add_assoc] at this
theorem half_succ {s n q : Nat} {d d' : Array α} (h : Half lt s n q d) (hn : q * (s + s) + (s + s) ≤ n) (hs : n ≤ d.size) (hM : Merged lt (q * (s + s)) (q * (s + s) + (s + s)) d d') : Half lt s n (q + 1) d' := by
  refine ⟨runsTo_succ h.1 (by omega) hM, fun p hp => ?_⟩
  have h2 := Nat.mul_le_mul_right s hp
  rw [two_mul_q, Nat.succ_mul] at h2
  exact sorted_of_eq (h.2 p (by omega)) (Nat.le_refl _) (Nat.le_refl _) (fun i i0 i1 => hM.1.1.2.1 i (by omega))
theorem half_last {s n q : Nat} {d : Array α} (h : Half lt s n q d) (hn : n ≤ q * (s + s) + s) : SortedIn lt (q * (s + s)) n d := by
  have := h.2 (2 * q) (Nat.le_refl _)
  rwa [two_mul_q, Nat.min_eq_right hn] at this
theorem half_runs {s n q : Nat} {d d' : Array α} (h : Half lt s n q d) (hq : q * (s + s) ≤ n) (hn : n < q * (s + s) + (s + s)) (hs : n ≤ d.size) (hM : Merged lt (q * (s + s)) n d d') : Runs lt (s + s) n d' := runs_of h.1 hq hn hs hM
theorem runs_whole {s n : Nat} {d : Array α} (h : Runs lt s n d) (hn : n ≤ s) : SortedIn lt 0 n d := by
  have := h 0
  rwa [Nat.zero_mul, Nat.zero_add, Nat.min_eq_right hn] at this

theorem wrap_small (x : Int) (h0 : 0 ≤ x) (h1 : x < 4000000) : IntKind.i64.wrap x = x := by rw [IntKind.wrap_i64]; omega

end Go.Proofs.Ytcmgfmpmapnckaa
