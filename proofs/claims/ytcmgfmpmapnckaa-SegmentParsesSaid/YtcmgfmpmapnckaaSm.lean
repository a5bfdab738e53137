/- Walks of package sum. -/
import Derived.Test.YtcmgfmpmapnckaaWr
namespace Go.Proofs.Ytcmgfmpmapnckaa
open Go.RowKit
set_option linter.unusedVariables false
set_option linter.unusedSimpArgs false

/-- A carry brought round. -/
def fold1 (n : Nat) : Nat := if n ≤ 65535 then n else n - 65535
theorem fold1_le (n : Nat) (h : n ≤ 131070) : fold1 n ≤ 65535 := by unfold fold1; split <;> omega

theorem split16 (n : Nat) (h : 65535 < n) (h2 : n ≤ 131070) : (n : Int) / 65536 + bits .and .i64 (n : Int) 65535 = ((fold1 n : Nat) : Int) := by
  have := bits_mask .i64 62 (by decide) (fun n h0 h1 => IntWalk.i64_in _ (by omega)) 16 (by decide) (n : Int) (by omega) (by omega)
  rw [show (2 : Int) ^ 16 - 1 = 65535 from by decide] at this
  rw [this]
  unfold fold1
  rw [if_neg (by omega)]
  omega

set_option maxHeartbeats 1000000 in
theorem fold_any (n : Nat) (z : Int) (hz : z = n) (w : World) (h : n ≤ 131070) :
    Calls Try.prog 122 #[.int .i64 z] w fun e w' => e = .returned (.int .i64 (fold1 n : Nat)) ∧ w = w' := by
  subst hz
  have hs := fun h1 => split16 n h1 h
  go_enter Try.func122, Try.ntmps122
  go_wp2
  go_loop [0] (fun x => ∃ m : Nat, x = .int .i64 m ∧ fold1 m = fold1 n ∧ m ≤ 131070) (fun x => (intOf x).toNat)
  case atStart => exact ⟨n, rfl, rfl, h⟩
  case round =>
    obtain ⟨m, rfl, hm, hle⟩ := hrel
    have HM := Lib.hid hm; clear hm hs
    by_cases hgt : 65535 < m
    · have hs := split16 m hgt hle
      have hf : fold1 m < m := by unfold fold1; rw [if_neg (by omega)]; omega
      have hl := fold1_le m hle
      have hf2 : fold1 (fold1 m) = fold1 m := by show (if fold1 m ≤ 65535 then fold1 m else _) = _; rw [if_pos hl]
      have HF := Lib.hid hf2; clear hf2
      go_wp2
      go_round
      case rel => exact ⟨fold1 m, rfl, by rw [HF.out, HM.out], by omega⟩
      case measure => simp [intOf]; omega
    · have hf : fold1 m = m := by unfold fold1; rw [if_pos (by omega)]
      go_wp2
      go_ret
      exact ⟨by rw [← HM.out, hf]; rfl, rfl⟩


/-- What a sum is behind a byte. -/
def putB (x : Nat × Bool) (c : UInt8) : Nat × Bool := (fold1 (x.1 + if x.2 then c.toNat * 256 else c.toNat), !x.2)
theorem putB_le (x : Nat × Bool) (c : UInt8) (h : x.1 ≤ 65535) : (putB x c).1 ≤ 65535 := by
  have := c.toNat_lt
  exact fold1_le _ (by split <;> omega)
/-- .. and behind bytes. -/
def putL8 (x : Nat × Bool) (l : List UInt8) : Nat × Bool := l.foldl putB x
theorem putL8_le (l : List UInt8) : ∀ (x : Nat × Bool), x.1 ≤ 65535 → (putL8 x l).1 ≤ 65535 := by
  induction l with
  | nil => intro x h; exact h
  | cons c l ih => intro x h; exact ih _ (putB_le x c h)
theorem putL8_snoc (x : Nat × Bool) (l : List UInt8) (c : UInt8) : putL8 x (l ++ [c]) = putB (putL8 x l) c := by simp [putL8]
theorem putL8_append (x : Nat × Bool) (l m : List UInt8) : putL8 x (l ++ m) = putL8 (putL8 x l) m := by simp [putL8]

/-- The two variables of a sum that goes on. -/
def SumAt (w : World) (bn bh : Nat) (x : Nat × Bool) : Prop :=
  w.heap[bn]? = some (.cells #[.int .i64 (x.1 : Nat)] 3 (0, 0)) ∧ w.heap[bh]? = some (.cells #[.bool x.2] 4 (0, 0)) ∧ bn ≠ bh

theorem SumAt.put {w : World} {bn bh : Nat} {x : Nat × Bool} (h : SumAt w bn bh x) (n : Nat) (b : Bool) :
    SumAt ((w.setCell ⟨bn, 0, none⟩ (.int .i64 n)).setCell ⟨bh, 0, none⟩ (.bool b)) bn bh (n, b) :=
  ⟨blk_set_ne ((blk_set h.1 0 _).trans rfl) _ h.2.2, (blk_set (blk_set_ne h.2.1 _ (Ne.symm h.2.2)) 0 _).trans rfl, h.2.2⟩

theorem SumAt.put1 {w : World} {bn bh : Nat} {x : Nat × Bool} (h : SumAt w bn bh x) (n : Nat) :
    SumAt (w.setCell ⟨bn, 0, none⟩ (.int .i64 n)) bn bh (n, x.2) :=
  ⟨(blk_set h.1 0 _).trans rfl, blk_set_ne h.2.1 _ (Ne.symm h.2.2), h.2.2⟩

set_option maxHeartbeats 2000000 in
theorem addPut_any (bn bh : Nat) (x : Nat × Bool) (c : UInt8) (z : Int) (hz : z = c.toNat) (w : World) (h : SumAt w bn bh x) (hle : x.1 ≤ 65535) :
    Calls Try.prog 121 #[.int .u8 z, .pointer (some ⟨bh, 0, none⟩), .pointer (some ⟨bn, 0, none⟩)] w fun e w' => e = .returned (.tuple #[]) ∧ SumAt w' bn bh (putB x c) ∧ Foot (fun k => k = bn ∨ k = bh) w w' := by
  obtain ⟨n, b⟩ := x
  have hc := c.toNat_lt
  have hne := h.2.2
  have hne' : bh ≠ bn := Ne.symm hne
  subst hz
  have c0 : w.cell? ⟨bn, 0, none⟩ = some (.int .i64 n) := (blk_cell h.1 0).trans rfl
  have c1 : w.cell? ⟨bh, 0, none⟩ = some (.bool b) := (blk_cell h.2.1 0).trans rfl
  have f0 : w.frozen? ⟨bn, 0, none⟩ = false := blk_free h.1 0
  have f1 : w.frozen? ⟨bh, 0, none⟩ = false := blk_free h.2.1 0
  have H := Lib.hid h; clear h
  simp only at hle
  generalize hv : c.toNat = v at *
  have HV := Lib.hid hv; clear hv
  cases b
  · go_enter Try.func121, Try.ntmps121
    go_wp2
    have e : ((n : Int) + v) = ((n + v : Nat) : Int) := by omega
    rw [e]
    have H1 := Lib.hid (H.out.put1 (n + v))
    have F1 := Foot.setCell (S := fun k => k = bn ∨ k = bh) w ⟨bn, 0, none⟩ (.int .i64 ((n + v : Nat) : Int)) (.inl rfl)
    generalize w.setCell ⟨bn, 0, none⟩ (.int .i64 ((n + v : Nat) : Int)) = w1 at *
    clear c0 c1 f0 f1 e
    have c0 : w1.cell? ⟨bn, 0, none⟩ = some (.int .i64 ((n + v : Nat) : Int)) := (blk_cell H1.out.1 0).trans rfl
    have c1 : w1.cell? ⟨bh, 0, none⟩ = some (.bool false) := (blk_cell H1.out.2.1 0).trans rfl
    have f0 : w1.frozen? ⟨bn, 0, none⟩ = false := blk_free H1.out.1 0
    have f1 : w1.frozen? ⟨bh, 0, none⟩ = false := blk_free H1.out.2.1 0
    have hm : n + v ≤ 131070 := by omega
    have HR : Hid (fold1 (n + v) = (putB (n, false) c).1) := by simp [Hid, putB, HV.out]
    generalize n + v = m at *
    go_region_with (go_at_call 122; (with_reducible refine (fold_any m _ rfl _ hm).mono ?_); rintro e w' ⟨rfl, rfl⟩)
    all_goals
      go_wp2
      go_end0
      exact ⟨rfl, by rw [show putB (n, false) c = (fold1 m, !false) from by rw [HR.out]; rfl]; exact H1.out.put _ _, (F1.trans (Foot.drew _ _)).trans ((Foot.setCell _ ⟨bn, 0, none⟩ _ (.inl rfl)).trans (Foot.setCell _ ⟨bh, 0, none⟩ _ (.inr rfl)))⟩
  · go_enter Try.func121, Try.ntmps121
    go_wp2
    have e : ((n : Int) + v * 256) = ((n + v * 256 : Nat) : Int) := by omega
    rw [e]
    have H1 := Lib.hid (H.out.put1 (n + v * 256))
    have F1 := Foot.setCell (S := fun k => k = bn ∨ k = bh) w ⟨bn, 0, none⟩ (.int .i64 ((n + v * 256 : Nat) : Int)) (.inl rfl)
    generalize w.setCell ⟨bn, 0, none⟩ (.int .i64 ((n + v * 256 : Nat) : Int)) = w1 at *
    clear c0 c1 f0 f1 e
    have c0 : w1.cell? ⟨bn, 0, none⟩ = some (.int .i64 ((n + v * 256 : Nat) : Int)) := (blk_cell H1.out.1 0).trans rfl
    have c1 : w1.cell? ⟨bh, 0, none⟩ = some (.bool true) := (blk_cell H1.out.2.1 0).trans rfl
    have f0 : w1.frozen? ⟨bn, 0, none⟩ = false := blk_free H1.out.1 0
    have f1 : w1.frozen? ⟨bh, 0, none⟩ = false := blk_free H1.out.2.1 0
    have hm : n + v * 256 ≤ 131070 := by omega
    have HR : Hid (fold1 (n + v * 256) = (putB (n, true) c).1) := by simp [Hid, putB, HV.out]
    generalize n + v * 256 = m at *
    go_region_with (go_at_call 122; (with_reducible refine (fold_any m _ rfl _ hm).mono ?_); rintro e w' ⟨rfl, rfl⟩)
    all_goals
      go_wp2
      go_end0
      exact ⟨rfl, by rw [show putB (n, true) c = (fold1 m, !true) from by rw [HR.out]; rfl]; exact H1.out.put _ _, (F1.trans (Foot.drew _ _)).trans ((Foot.setCell _ ⟨bn, 0, none⟩ _ (.inl rfl)).trans (Foot.setCell _ ⟨bh, 0, none⟩ _ (.inr rfl)))⟩


end Go.Proofs.Ytcmgfmpmapnckaa
