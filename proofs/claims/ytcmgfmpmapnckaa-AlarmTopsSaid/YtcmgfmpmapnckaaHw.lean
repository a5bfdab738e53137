/- Walks of the stable sort at both element types. Written by wip/gensort.py. -/
import Derived.Test.YtcmgfmpmapnckaaSt
import Derived.Shelf.SlSortCmp.KitK
import Derived.Sort.WalkB2
import Derived.Sort.WalkB12
import Derived.Deep.LoopGhost
namespace Go.Proofs.Ytcmgfmpmapnckaa
open Go.Shelf Go.RowKit Go.Lib Go.Sort
set_option linter.unusedVariables false
set_option linter.unusedSimpArgs false
variable {α : Type} [Inhabited α]

set_option maxHeartbeats 4000000 in
set_option maxRecDepth 1000000 in
theorem swapRange_P (k : Nat) (zE : ∀ w, (Go.sizeOf 150).run Try.prog w = .ok k w) (enc : α → List Value) (g : Nat) (cb : Array Value) (blk off cap a b n : Nat) (d0 d : Array α) (w0 w : World)
    (R : RowK enc k w0 blk off d0) (hs : d0.size = d.size) (S : SWK enc k w0 blk off d w) (hab : a + n ≤ b) (hb : b + n ≤ d.size) (hsz : d.size < 4611686018427387904) :
    Calls Try.prog 153 #[.slice (some ⟨blk, off, none⟩) d.size cap, .int .i64 a, .int .i64 b, .int .i64 n, .func (.func g) #[] cb] w fun e w' => e = .returned (.tuple #[]) ∧ ∃ d', Xch a b n d d' ∧ SWK enc k w0 blk off d' w' := by
  have mixed : Try.prog.follows Departure.mixedOrders = true := by kernel_rfl
  have S0 : Aside (SWK enc k w0 blk off d w) := S
  clear S
  go_enter Try.func153, Try.ntmps153
  go_wp2
  go_loopg [10] n (fun kx s10 wr => ∃ (i : Nat) (dk : Array α), s10 = .int .i64 i ∧ i ≤ n ∧ n - i ≤ kx ∧ dk.size = d.size ∧ Aside (SWK enc k w0 blk off dk wr) ∧ Aside (Xch a b i d dk))
  case atStart => exact ⟨0, d, rfl, by omega, by omega, rfl, S0, Xch.zero a b d⟩
  case round =>
    clear S0
    obtain ⟨i, dk, rfl, hin, hkx, hds, S1, HX⟩ := hrel
    by_cases hlt : i < n
    · have hltz : (i : Int) < (n : Int) := by omega
      go_wp2_with fail
      have ea : ((a : Int) + (i : Int)).toNat = a + i := by omega
      have pa : (0 : Int) ≤ (a : Int) + (i : Int) := by omega
      have ba : (a : Int) + (i : Int) < (d.size : Int) := by omega
      have ra : IntKind.i64.wrap ((a : Int) + (i : Int)) = (a : Int) + (i : Int) := by rw [IntKind.wrap_i64]; omega
      have ec : ((b : Int) + (i : Int)).toNat = b + i := by omega
      have pc : (0 : Int) ≤ (b : Int) + (i : Int) := by omega
      have bc : (b : Int) + (i : Int) < (d.size : Int) := by omega
      have rc : IntKind.i64.wrap ((b : Int) + (i : Int)) = (b : Int) + (i : Int) := by rw [IntKind.wrap_i64]; omega
      have S2 : Aside (SWK enc k w0 blk off (swp dk (a + i) (b + i)) ((wr.drew.setCells blk (off + (a + i) * k) (enc dk[b + i]!)).setCells blk (off + (b + i) * k) (enc dk[a + i]!))) := S1.out.swapped R (a + i) (b + i) (by omega) (by omega)
      have la := S1.out.ld1 R (by omega) Try.prog (a + i) (by omega)
      have lb := S1.out.ld1 R (by omega) Try.prog (b + i) (by omega)
      have sa := S1.out.st1 R (by omega) Try.prog (a + i) (by omega) dk[b + i]!
      have sb := S1.out.st2 R (by omega) Try.prog (a + i) (b + i) (by omega) (by omega) dk[b + i]! dk[a + i]!
      have na : (enc dk[a + i]!).length = k := R.hk _
      have nb : (enc dk[b + i]!).length = k := R.hk _
      generalize enc dk[a + i]! = cI at S2 la sb na
      generalize enc dk[b + i]! = cJ at S2 lb sa sb nb
      clear S1
      go_wp2_with fail
      go_big_region_o
      clear la lb sa sb
      generalize (wr.drew.setCells blk (off + (a + i) * k) cJ).setCells blk (off + (b + i) * k) cI = w2 at S2 ⊢
      go_wp2
      go_roundg (n - (i + 1))
      case measure => omega
      case rel => exact ⟨i + 1, swp dk (a + i) (b + i), by go_num, by omega, Nat.le_refl _, by rw [size_swp]; exact hds, S2, HX.out.snoc (by omega) (by omega)⟩
    · have hnot : ¬ (i : Int) < (n : Int) := by omega
      go_wp2
      go_end0
      obtain rfl : i = n := by omega
      exact ⟨rfl, dk, HX.out, S1.out⟩

set_option maxHeartbeats 4000000 in
set_option maxRecDepth 1000000 in
theorem swapRange_G (k : Nat) (zE : ∀ w, (Go.sizeOf 57).run Try.prog w = .ok k w) (enc : α → List Value) (g : Nat) (cb : Array Value) (blk off cap a b n : Nat) (d0 d : Array α) (w0 w : World)
    (R : RowK enc k w0 blk off d0) (hs : d0.size = d.size) (S : SWK enc k w0 blk off d w) (hab : a + n ≤ b) (hb : b + n ≤ d.size) (hsz : d.size < 4611686018427387904) :
    Calls Try.prog 152 #[.slice (some ⟨blk, off, none⟩) d.size cap, .int .i64 a, .int .i64 b, .int .i64 n, .func (.func g) #[] cb] w fun e w' => e = .returned (.tuple #[]) ∧ ∃ d', Xch a b n d d' ∧ SWK enc k w0 blk off d' w' := by
  have mixed : Try.prog.follows Departure.mixedOrders = true := by kernel_rfl
  have S0 : Aside (SWK enc k w0 blk off d w) := S
  clear S
  go_enter Try.func152, Try.ntmps152
  go_wp2
  go_loopg [10] n (fun kx s10 wr => ∃ (i : Nat) (dk : Array α), s10 = .int .i64 i ∧ i ≤ n ∧ n - i ≤ kx ∧ dk.size = d.size ∧ Aside (SWK enc k w0 blk off dk wr) ∧ Aside (Xch a b i d dk))
  case atStart => exact ⟨0, d, rfl, by omega, by omega, rfl, S0, Xch.zero a b d⟩
  case round =>
    clear S0
    obtain ⟨i, dk, rfl, hin, hkx, hds, S1, HX⟩ := hrel
    by_cases hlt : i < n
    · have hltz : (i : Int) < (n : Int) := by omega
      go_wp2_with fail
      have ea : ((a : Int) + (i : Int)).toNat = a + i := by omega
      have pa : (0 : Int) ≤ (a : Int) + (i : Int) := by omega
      have ba : (a : Int) + (i : Int) < (d.size : Int) := by omega
      have ra : IntKind.i64.wrap ((a : Int) + (i : Int)) = (a : Int) + (i : Int) := by rw [IntKind.wrap_i64]; omega
      have ec : ((b : Int) + (i : Int)).toNat = b + i := by omega
      have pc : (0 : Int) ≤ (b : Int) + (i : Int) := by omega
      have bc : (b : Int) + (i : Int) < (d.size : Int) := by omega
      have rc : IntKind.i64.wrap ((b : Int) + (i : Int)) = (b : Int) + (i : Int) := by rw [IntKind.wrap_i64]; omega
      have S2 : Aside (SWK enc k w0 blk off (swp dk (a + i) (b + i)) ((wr.drew.setCells blk (off + (a + i) * k) (enc dk[b + i]!)).setCells blk (off + (b + i) * k) (enc dk[a + i]!))) := S1.out.swapped R (a + i) (b + i) (by omega) (by omega)
      have la := S1.out.ld1 R (by omega) Try.prog (a + i) (by omega)
      have lb := S1.out.ld1 R (by omega) Try.prog (b + i) (by omega)
      have sa := S1.out.st1 R (by omega) Try.prog (a + i) (by omega) dk[b + i]!
      have sb := S1.out.st2 R (by omega) Try.prog (a + i) (b + i) (by omega) (by omega) dk[b + i]! dk[a + i]!
      have na : (enc dk[a + i]!).length = k := R.hk _
      have nb : (enc dk[b + i]!).length = k := R.hk _
      generalize enc dk[a + i]! = cI at S2 la sb na
      generalize enc dk[b + i]! = cJ at S2 lb sa sb nb
      clear S1
      go_wp2_with fail
      go_big_region_o
      clear la lb sa sb
      generalize (wr.drew.setCells blk (off + (a + i) * k) cJ).setCells blk (off + (b + i) * k) cI = w2 at S2 ⊢
      go_wp2
      go_roundg (n - (i + 1))
      case measure => omega
      case rel => exact ⟨i + 1, swp dk (a + i) (b + i), by go_num, by omega, Nat.le_refl _, by rw [size_swp]; exact hds, S2, HX.out.snoc (by omega) (by omega)⟩
    · have hnot : ¬ (i : Int) < (n : Int) := by omega
      go_wp2
      go_end0
      obtain rfl : i = n := by omega
      exact ⟨rfl, dk, HX.out, S1.out⟩

set_option maxHeartbeats 4000000 in
set_option maxRecDepth 1000000 in
theorem rotate_P (k : Nat) (zE : ∀ w, (Go.sizeOf 150).run Try.prog w = .ok k w) (enc : α → List Value) (g : Nat) (cb : Array Value) (blk off cap a m b : Nat) (d0 d : Array α) (w0 w : World)
    (R : RowK enc k w0 blk off d0) (hs : d0.size = d.size) (S : SWK enc k w0 blk off d w) (ham : a < m) (hmb : m < b) (hb : b ≤ d.size) (hsz : d.size < 4611686018427387904) :
    Calls Try.prog 151 #[.slice (some ⟨blk, off, none⟩) d.size cap, .int .i64 a, .int .i64 m, .int .i64 b, .func (.func g) #[] cb] w fun e w' => e = .returned (.tuple #[]) ∧ ∃ d', Rot a m b d d' ∧ SWK enc k w0 blk off d' w' := by
  have S0 : Aside (SWK enc k w0 blk off d w) := S
  clear S
  have r1 : IntKind.i64.wrap ((m : Int) - (a : Int)) = ((m - a : Nat) : Int) := by rw [IntKind.wrap_i64]; omega
  have r2 : IntKind.i64.wrap ((b : Int) - (m : Int)) = ((b - m : Nat) : Int) := by rw [IntKind.wrap_i64]; omega
  go_enter Try.func151, Try.ntmps151
  go_wp2
  clear r1 r2
  go_loopg [10, 11] (b - a) (fun kx s10 s11 wr => ∃ (i j : Nat) (dk : Array α), s10 = .int .i64 i ∧ s11 = .int .i64 j ∧ 0 < i ∧ 0 < j ∧ i ≤ m ∧ m + j ≤ d.size ∧ i + j ≤ kx ∧ dk.size = d.size ∧ Aside (SWK enc k w0 blk off dk wr) ∧ Aside (∀ d', Rot (m - i) m (m + j) dk d' → Rot a m b d d'))
  case atStart => exact ⟨m - a, b - m, d, by go_num, by go_num, by omega, by omega, by omega, by omega, by omega, rfl, S0, fun d' h => by rwa [show m - (m - a) = a by omega, show m + (b - m) = b by omega] at h⟩
  case round =>
    clear S0
    obtain ⟨i, j, dk, rfl, rfl, hi0, hj0, him, hmj, hkx, hds, S1, HX⟩ := hrel
    by_cases hij : i = j
    · subst hij
      have hne : ((i : Int) != (i : Int)) = false := by simp
      have e1 : ((m - i : Nat) : Int) = (m : Int) - (i : Int) := by omega
      have hc := swapRange_P k zE enc g cb blk off cap (m - i) m i d0 dk w0 wr R (by omega) S1.out (by omega) (by omega) (by omega)
      rw [hds, e1] at hc
      go_wp2_with fail
      refine hc.mono ?_
      rintro e w1 ⟨rfl, d1, hx, S2⟩
      have hz : d1.size = d.size := hx.1.trans hds
      have S3 : Aside (SWK enc k w0 blk off d1 w1) := S2
      clear S1 S2 hc
      go_wp2
      go_end0
      exact ⟨rfl, d1, HX.out d1 (Rot.same him hx), S3.out⟩
    · have hne : ((i : Int) != (j : Int)) = true := by rw [bne_iff_ne]; omega
      by_cases hlt : j < i
      · have hltz : (j : Int) < (i : Int) := by omega
        have e1 : ((m - i : Nat) : Int) = (m : Int) - (i : Int) := by omega
        have r3 : IntKind.i64.wrap ((i : Int) - (j : Int)) = ((i - j : Nat) : Int) := by rw [IntKind.wrap_i64]; omega
        have hc := swapRange_P k zE enc g cb blk off cap (m - i) m j d0 dk w0 wr R (by omega) S1.out (by omega) (by omega) (by omega)
        rw [hds, e1] at hc
        go_wp2_with fail
        refine hc.mono ?_
        rintro e w1 ⟨rfl, d1, hx, S2⟩
        have hz : d1.size = d.size := hx.1.trans hds
        have S3 : Aside (SWK enc k w0 blk off d1 w1) := S2
        clear S1 S2 hc
        go_wp2
        go_roundg (i - j + j)
        case measure => omega
        case rel => exact ⟨i - j, j, d1, by go_num, rfl, by omega, hj0, by omega, hmj, by omega, hz, S3, fun d' h => HX.out d' (Rot.left hlt him hx h)⟩
      · have hltz : ¬ (j : Int) < (i : Int) := by omega
        have e1 : ((m - i : Nat) : Int) = (m : Int) - (i : Int) := by omega
        have e2 : ((m + j - i : Nat) : Int) = (m : Int) + (j : Int) - (i : Int) := by omega
        have r3 : IntKind.i64.wrap ((j : Int) - (i : Int)) = ((j - i : Nat) : Int) := by rw [IntKind.wrap_i64]; omega
        have hc := swapRange_P k zE enc g cb blk off cap (m - i) (m + j - i) i d0 dk w0 wr R (by omega) S1.out (by omega) (by omega) (by omega)
        rw [hds, e1, e2] at hc
        go_wp2_with fail
        refine hc.mono ?_
        rintro e w1 ⟨rfl, d1, hx, S2⟩
        have hz : d1.size = d.size := hx.1.trans hds
        have S3 : Aside (SWK enc k w0 blk off d1 w1) := S2
        clear S1 S2 hc
        go_wp2
        go_roundg (j - i + i)
        case measure => omega
        case rel => exact ⟨i, j - i, d1, rfl, by go_num, hi0, by omega, him, by omega, by omega, hz, S3, fun d' h => HX.out d' (Rot.right (by omega) him hx h)⟩

set_option maxHeartbeats 4000000 in
set_option maxRecDepth 1000000 in
theorem rotate_G (k : Nat) (zE : ∀ w, (Go.sizeOf 57).run Try.prog w = .ok k w) (enc : α → List Value) (g : Nat) (cb : Array Value) (blk off cap a m b : Nat) (d0 d : Array α) (w0 w : World)
    (R : RowK enc k w0 blk off d0) (hs : d0.size = d.size) (S : SWK enc k w0 blk off d w) (ham : a < m) (hmb : m < b) (hb : b ≤ d.size) (hsz : d.size < 4611686018427387904) :
    Calls Try.prog 146 #[.slice (some ⟨blk, off, none⟩) d.size cap, .int .i64 a, .int .i64 m, .int .i64 b, .func (.func g) #[] cb] w fun e w' => e = .returned (.tuple #[]) ∧ ∃ d', Rot a m b d d' ∧ SWK enc k w0 blk off d' w' := by
  have S0 : Aside (SWK enc k w0 blk off d w) := S
  clear S
  have r1 : IntKind.i64.wrap ((m : Int) - (a : Int)) = ((m - a : Nat) : Int) := by rw [IntKind.wrap_i64]; omega
  have r2 : IntKind.i64.wrap ((b : Int) - (m : Int)) = ((b - m : Nat) : Int) := by rw [IntKind.wrap_i64]; omega
  go_enter Try.func146, Try.ntmps146
  go_wp2
  clear r1 r2
  go_loopg [10, 11] (b - a) (fun kx s10 s11 wr => ∃ (i j : Nat) (dk : Array α), s10 = .int .i64 i ∧ s11 = .int .i64 j ∧ 0 < i ∧ 0 < j ∧ i ≤ m ∧ m + j ≤ d.size ∧ i + j ≤ kx ∧ dk.size = d.size ∧ Aside (SWK enc k w0 blk off dk wr) ∧ Aside (∀ d', Rot (m - i) m (m + j) dk d' → Rot a m b d d'))
  case atStart => exact ⟨m - a, b - m, d, by go_num, by go_num, by omega, by omega, by omega, by omega, by omega, rfl, S0, fun d' h => by rwa [show m - (m - a) = a by omega, show m + (b - m) = b by omega] at h⟩
  case round =>
    clear S0
    obtain ⟨i, j, dk, rfl, rfl, hi0, hj0, him, hmj, hkx, hds, S1, HX⟩ := hrel
    by_cases hij : i = j
    · subst hij
      have hne : ((i : Int) != (i : Int)) = false := by simp
      have e1 : ((m - i : Nat) : Int) = (m : Int) - (i : Int) := by omega
      have hc := swapRange_G k zE enc g cb blk off cap (m - i) m i d0 dk w0 wr R (by omega) S1.out (by omega) (by omega) (by omega)
      rw [hds, e1] at hc
      go_wp2_with fail
      refine hc.mono ?_
      rintro e w1 ⟨rfl, d1, hx, S2⟩
      have hz : d1.size = d.size := hx.1.trans hds
      have S3 : Aside (SWK enc k w0 blk off d1 w1) := S2
      clear S1 S2 hc
      go_wp2
      go_end0
      exact ⟨rfl, d1, HX.out d1 (Rot.same him hx), S3.out⟩
    · have hne : ((i : Int) != (j : Int)) = true := by rw [bne_iff_ne]; omega
      by_cases hlt : j < i
      · have hltz : (j : Int) < (i : Int) := by omega
        have e1 : ((m - i : Nat) : Int) = (m : Int) - (i : Int) := by omega
        have r3 : IntKind.i64.wrap ((i : Int) - (j : Int)) = ((i - j : Nat) : Int) := by rw [IntKind.wrap_i64]; omega
        have hc := swapRange_G k zE enc g cb blk off cap (m - i) m j d0 dk w0 wr R (by omega) S1.out (by omega) (by omega) (by omega)
        rw [hds, e1] at hc
        go_wp2_with fail
        refine hc.mono ?_
        rintro e w1 ⟨rfl, d1, hx, S2⟩
        have hz : d1.size = d.size := hx.1.trans hds
        have S3 : Aside (SWK enc k w0 blk off d1 w1) := S2
        clear S1 S2 hc
        go_wp2
        go_roundg (i - j + j)
        case measure => omega
        case rel => exact ⟨i - j, j, d1, by go_num, rfl, by omega, hj0, by omega, hmj, by omega, hz, S3, fun d' h => HX.out d' (Rot.left hlt him hx h)⟩
      · have hltz : ¬ (j : Int) < (i : Int) := by omega
        have e1 : ((m - i : Nat) : Int) = (m : Int) - (i : Int) := by omega
        have e2 : ((m + j - i : Nat) : Int) = (m : Int) + (j : Int) - (i : Int) := by omega
        have r3 : IntKind.i64.wrap ((j : Int) - (i : Int)) = ((j - i : Nat) : Int) := by rw [IntKind.wrap_i64]; omega
        have hc := swapRange_G k zE enc g cb blk off cap (m - i) (m + j - i) i d0 dk w0 wr R (by omega) S1.out (by omega) (by omega) (by omega)
        rw [hds, e1, e2] at hc
        go_wp2_with fail
        refine hc.mono ?_
        rintro e w1 ⟨rfl, d1, hx, S2⟩
        have hz : d1.size = d.size := hx.1.trans hds
        have S3 : Aside (SWK enc k w0 blk off d1 w1) := S2
        clear S1 S2 hc
        go_wp2
        go_roundg (j - i + i)
        case measure => omega
        case rel => exact ⟨i, j - i, d1, rfl, by go_num, hi0, by omega, him, by omega, by omega, hz, S3, fun d' h => HX.out d' (Rot.right (by omega) him hx h)⟩

end Go.Proofs.Ytcmgfmpmapnckaa
