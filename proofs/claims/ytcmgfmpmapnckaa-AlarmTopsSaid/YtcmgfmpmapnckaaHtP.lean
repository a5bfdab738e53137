/- Walks of the stable sort at both element types. Written by wip/gensort.py. -/
import Derived.Test.YtcmgfmpmapnckaaHxP
import Derived.Test.YtcmgfmpmapnckaaHyP
import Derived.Test.YtcmgfmpmapnckaaHzP
import Derived.Test.YtcmgfmpmapnckaaSu
import Derived.Shelf.SlSortCmp.KitK
import Derived.Sort.WalkB2
import Derived.Sort.WalkB12
import Derived.Deep.LoopGhost
namespace Go.Proofs.Ytcmgfmpmapnckaa
open Go.Shelf Go.RowKit Go.Lib Go.Sort
set_option linter.unusedVariables false
set_option linter.unusedSimpArgs false
variable {α : Type} [Inhabited α]

set_option maxHeartbeats 16000000 in
set_option maxRecDepth 1000000 in
theorem symMerge_P (k : Nat) (aE : ∀ w, (isAgg 150).run Try.prog w = .ok true w) (zE : ∀ w, (Go.sizeOf 150).run Try.prog w = .ok k w) (enc : α → List Value) (cf : α → α → Int) (hS : SWO (ltOf cf)) (g : Nat) (cb : Array Value) (blk off cap : Nat) (d0 : Array α) (w0 : World)
    (eg : ∀ args w, (callFunc g args).run Try.prog w = .ok (.enter g args) w) (hcmp : CmpLays Try.prog g cb enc k cf blk off d0.size w0) (R : RowK enc k w0 blk off d0) (hsz : d0.size < 1000000) : ∀ (N a m b : Nat) (d : Array α) (w : World), b - a < N → d0.size = d.size → SWK enc k w0 blk off d w → a < m → m < b → b ≤ d.size → SortedIn (ltOf cf) a m d → SortedIn (ltOf cf) m b d →
    Calls Try.prog 143 #[.slice (some ⟨blk, off, none⟩) d.size cap, .int .i64 a, .int .i64 m, .int .i64 b, .func (.func g) #[] cb] w fun e w' => e = .returned (.tuple #[]) ∧ ∃ d', Merged (ltOf cf) a b d d' ∧ SWK enc k w0 blk off d' w'
  | 0, a, m, b, d, w, hN, _, _, _, _, _, _, _ => absurd hN (Nat.not_lt_zero _)
  | N + 1, a, m, b, d, w, hN, hs, S, ham, hmb, hb, hA, hB => by
    by_cases h1 : m = a + 1
    · exact symMergeFirst_P k aE zE enc cf hS g cb blk off cap d0 w0 eg hcmp R hsz a m b d w hs S h1 hmb hb hB
    · by_cases h2 : b = m + 1
      · exact symMergeLast_P k aE zE enc cf hS g cb blk off cap d0 w0 eg hcmp R hsz a m b d w hs S (by omega) h2 hb hA
      · exact symMergeGen_P k aE zE enc cf hS g cb blk off cap d0 w0 eg hcmp R hsz a m b d w
          (fun a' m' b' d' w' hl hs' S' h1 h2 h3 h4 h5 => symMerge_P k aE zE enc cf hS g cb blk off cap d0 w0 eg hcmp R hsz N a' m' b' d' w' (by omega) hs' S' h1 h2 h3 h4 h5) hs S (by omega) (by omega) hb hA hB

set_option maxHeartbeats 16000000 in
set_option maxRecDepth 1000000 in
theorem insertion_P (k : Nat) (aE : ∀ w, (isAgg 150).run Try.prog w = .ok true w) (zE : ∀ w, (Go.sizeOf 150).run Try.prog w = .ok k w) (enc : α → List Value) (cf : α → α → Int) (hS : SWO (ltOf cf)) (g : Nat) (cb : Array Value) (blk off cap : Nat) (d0 : Array α) (w0 : World)
    (eg : ∀ args w, (callFunc g args).run Try.prog w = .ok (.enter g args) w) (hcmp : CmpLays Try.prog g cb enc k cf blk off d0.size w0) (R : RowK enc k w0 blk off d0) (hsz : d0.size < 1000000)
    (a b : Nat) (d : Array α) (w : World) (hs : d0.size = d.size) (S : SWK enc k w0 blk off d w) (hab : a ≤ b) (hb : b ≤ d.size) :
    Calls Try.prog 142 #[.slice (some ⟨blk, off, none⟩) d.size cap, .int .i64 a, .int .i64 b, .func (.func g) #[] cb] w fun e w' => e = .returned (.tuple #[]) ∧ ∃ d', Merged (ltOf cf) a b d d' ∧ SWK enc k w0 blk off d' w' := by
  have hM := insertion_merged hS a b d hab hb
  have hC : CmpLays Try.prog g cb enc k cf blk off d.size w := fun m os dk hdk x y => by
    obtain ⟨n0, os0, rfl⟩ := S
    rw [sortWorldK_on enc k w0 blk off n0 m d dk os0 os R.hblk hdk]
    exact hcmp _ _ dk (by omega) x y
  refine (AnyQ.insertionSortCmpFunc Try.insP k aE zE enc R.hk R.h1 cf g cb blk off cap a b d w eg hC (S.holds R.hblk R.hH hs.symm) (S.lt R.hblk) hab hb (by omega)).mono ?_
  rintro e w' ⟨rfl, n, os, rfl⟩
  exact ⟨rfl, _, hM, S.on R.hblk n _ os hM.1.1.1⟩

set_option maxHeartbeats 16000000 in
set_option maxRecDepth 1000000 in
theorem stable_P (k : Nat) (aE : ∀ w, (isAgg 150).run Try.prog w = .ok true w) (zE : ∀ w, (Go.sizeOf 150).run Try.prog w = .ok k w) (enc : α → List Value) (cf : α → α → Int) (hS : SWO (ltOf cf)) (g : Nat) (cb : Array Value) (blk off cap : Nat) (d0 : Array α) (w0 : World)
    (eg : ∀ args w, (callFunc g args).run Try.prog w = .ok (.enter g args) w) (hcmp : CmpLays Try.prog g cb enc k cf blk off d0.size w0) (R : RowK enc k w0 blk off d0) (hsz : d0.size < 1000000)
    (d : Array α) (w : World) (hs : d0.size = d.size) (S : SWK enc k w0 blk off d w) :
    Calls Try.prog 119 #[.slice (some ⟨blk, off, none⟩) d.size cap, .int .i64 d.size, .func (.func g) #[] cb] w fun e w' => e = .returned (.tuple #[]) ∧ ∃ d', Merged (ltOf cf) 0 d.size d d' ∧ SWK enc k w0 blk off d' w' := by
  have HC : Aside _ := hcmp
  have S0 : Aside (SWK enc k w0 blk off d w) := S
  have hn : d.size < 1000000 := by omega
  have IN := fun (a b : Nat) (dk : Array α) (wr : World) (h1 : dk.size = d.size) (h2 : SWK enc k w0 blk off dk wr) (h3 : a ≤ b) (h4 : b ≤ d.size) => by
    have h := insertion_P k aE zE enc cf hS g cb blk off cap d0 w0 eg hcmp R hsz a b dk wr (by omega) h2 h3 (by omega)
    rw [h1] at h
    exact h
  have SY := fun (a m b : Nat) (dk : Array α) (wr : World) (h1 : dk.size = d.size) (h2 : SWK enc k w0 blk off dk wr) (h3 : a < m) (h4 : m < b) (h5 : b ≤ d.size) (h6 : SortedIn (ltOf cf) a m dk) (h7 : SortedIn (ltOf cf) m b dk) => by
    have h := symMerge_P k aE zE enc cf hS g cb blk off cap d0 w0 eg hcmp R hsz (b - a + 1) a m b dk wr (by omega) (by omega) h2 h3 h4 (by omega) h6 h7
    rw [h1] at h
    exact h
  have INH := Lib.hid IN
  have SYH := Lib.hid SY
  clear S hcmp IN SY
  go_enter Try.func119, Try.ntmps119
  go_wp2
  go_loopg [7, 8] d.size (fun kx s7 s8 wr => ∃ (q A B : Nat) (dk : Array α), s7 = .int .i64 A ∧ s8 = .int .i64 B ∧ A ≤ d.size ∧ B ≤ A + 20 ∧ A + 20 ≤ B ∧ d.size - A ≤ kx ∧ dk.size = d.size ∧ Aside (A = q * 20) ∧ Aside (SWK enc k w0 blk off dk wr) ∧ Aside (RunsTo (ltOf cf) 20 q dk) ∧ Aside (Keep (ltOf cf) 0 d.size d dk))
  case atStart => exact ⟨0, 0, 20, d, rfl, rfl, Nat.zero_le _, Nat.le_refl _, Nat.le_refl _, by omega, rfl, (Nat.zero_mul 20).symm, S0, runsTo_zero _ _, Keep.refl _ _ _⟩
  case round =>
    clear S0
    obtain ⟨q, A, B, dk, rfl, rfl, hAn, hB1, hB2, hkx, hds, HA, S1, HR, HK⟩ := hrel
    by_cases hlt : B ≤ d.size
    · have hltz : (B : Int) ≤ (d.size : Int) := by omega
      have hc := INH.out A B dk _ hds S1.out (by omega) hlt
      go_wp2_with fail
      refine hc.mono ?_
      rintro e w1 ⟨rfl, d1, hM, S2⟩
      have hz : d1.size = d.size := hM.1.1.1.trans hds
      have HM : Aside (Merged (ltOf cf) A B dk d1) := hM
      have S3 : Aside (SWK enc k w0 blk off d1 w1) := S2
      clear S1 S2 hc hM
      go_wp2
      go_roundg (d.size - B)
      case measure => omega
      case rel =>
        have ha := HA.out
        have hb : B = q * 20 + 20 := by omega
        exact ⟨q + 1, B, B + 20, d1, rfl, by go_num, hlt, by omega, by omega, Nat.le_refl _, hz, (by show B = (q + 1) * 20; omega), S3,
          runsTo_succ HR.out (by omega) (by rw [← ha, show A + 20 = B by omega]; exact HM.out), HK.out.trans (HM.out.1.mono (Nat.zero_le _) (by omega) hlt (by omega))⟩
    · have hltz : ¬ (B : Int) ≤ (d.size : Int) := by omega
      have hc := INH.out A d.size dk _ hds S1.out (by omega) (Nat.le_refl _)
      go_wp2_with fail
      refine hc.mono ?_
      rintro e w1 ⟨rfl, d1, hM, S2⟩
      have hz : d1.size = d.size := hM.1.1.1.trans hds
      have HK1 : Aside (Keep (ltOf cf) 0 d.size d d1) := HK.out.trans (hM.1.mono (Nat.zero_le _) hAn (Nat.le_refl _) (by omega))
      have HR1 : Aside (Runs (ltOf cf) 20 d.size d1) := runs_of HR.out (by have := HA.out; omega) (by have := HA.out; omega) (by omega) (by have := HA.out; rw [← this]; exact hM)
      have S3 : Aside (SWK enc k w0 blk off d1 w1) := S2
      clear S1 S2 hc hM HA HR HK hkx hds hAn hB1 hB2 hltz hlt
      go_wp2
      go_loopg [6] d.size (fun kx s6 wr => ∃ (s : Nat) (dk : Array α), s6 = .int .i64 s ∧ 20 ≤ s ∧ s < 3000000 ∧ d.size - s ≤ kx ∧ dk.size = d.size ∧ Aside (SWK enc k w0 blk off dk wr) ∧ Aside (Runs (ltOf cf) s d.size dk) ∧ Aside (Keep (ltOf cf) 0 d.size d dk))
      case atStart => exact ⟨20, d1, rfl, Nat.le_refl _, by omega, by omega, hz, S3, HR1, HK1⟩
      case round =>
        clear S3 HR1 HK1 hz
        obtain ⟨s, dk, rfl, hs20, hsbig, hkx, hds, S1, HR, HK⟩ := hrel
        by_cases hlt : s < d.size
        · have hltz : (s : Int) < (d.size : Int) := by omega
          have r1 : IntKind.i64.wrap (2 * (s : Int)) = 2 * (s : Int) := wrap_small _ (by omega) (by omega)
          have r2 : IntKind.i64.wrap ((s : Int) * 2) = (s : Int) * 2 := wrap_small _ (by omega) (by omega)
          go_wp2
          go_loopg [7, 8] d.size (fun kx s7 s8 wr => ∃ (q A B : Nat) (dk : Array α), s7 = .int .i64 A ∧ s8 = .int .i64 B ∧ A ≤ d.size ∧ B ≤ A + 2 * s ∧ A + 2 * s ≤ B ∧ d.size - A ≤ kx ∧ dk.size = d.size ∧ Aside (A = q * (s + s)) ∧ Aside (SWK enc k w0 blk off dk wr) ∧ Aside (Half (ltOf cf) s d.size q dk) ∧ Aside (Keep (ltOf cf) 0 d.size d dk))
          case atStart => exact ⟨0, 0, 2 * s, dk, rfl, by go_num, Nat.zero_le _, by omega, by omega, by omega, hds, (Nat.zero_mul _).symm, S1, half_zero HR.out, HK⟩
          case round =>
            clear S1 HR HK hds
            obtain ⟨q, A, B, dk, rfl, rfl, hAn, hB1, hB2, hkx2, hds, HA, S1, HH, HK⟩ := hrel
            by_cases hltB : B ≤ d.size
            · have hltBz : (B : Int) ≤ (d.size : Int) := by omega
              have e1 : ((A + s : Nat) : Int) = (A : Int) + (s : Int) := by omega
              have ha := HA.out
              have hc := SYH.out A (A + s) B dk _ hds S1.out (by omega) (by omega) hltB (by rw [ha]; exact half_left HH.out (by omega)) (by
                have h := half_right HH.out
                rw [← ha, Nat.min_eq_left (by omega)] at h
                rwa [show B = A + (s + s) by omega])
              rw [e1] at hc
              clear e1 ha
              go_wp2_with fail
              refine hc.mono ?_
              rintro e w1 ⟨rfl, d1, hM, S2⟩
              have hz : d1.size = d.size := hM.1.1.1.trans hds
              have HM : Aside (Merged (ltOf cf) A B dk d1) := hM
              have S3 : Aside (SWK enc k w0 blk off d1 w1) := S2
              clear S1 S2 hc hM
              go_wp2
              go_roundg (d.size - B)
              case measure => omega
              case rel =>
                have ha := HA.out
                have hb : B = q * (s + s) + (s + s) := by omega
                exact ⟨q + 1, B, B + 2 * s, d1, rfl, by go_num, hltB, by omega, by omega, Nat.le_refl _, hz, (by show B = (q + 1) * (s + s); rw [Nat.succ_mul]; omega), S3,
                  half_succ HH.out (by omega) (by omega) (by rw [← hb, ← ha]; exact HM.out), HK.out.trans (HM.out.1.mono (Nat.zero_le _) (by omega) hltB (by omega))⟩
            · have hltBz : ¬ (B : Int) ≤ (d.size : Int) := by omega
              by_cases hm : A + s < d.size
              · have hmz : (A : Int) + (s : Int) < (d.size : Int) := by omega
                have e1 : ((A + s : Nat) : Int) = (A : Int) + (s : Int) := by omega
                have ha := HA.out
                have hc := SYH.out A (A + s) d.size dk _ hds S1.out (by omega) hm (Nat.le_refl _) (by rw [ha]; exact half_left HH.out (by omega)) (by
                  have h := half_right HH.out
                  rw [← ha, Nat.min_eq_right (by omega)] at h
                  exact h)
                rw [e1] at hc
                clear e1 ha
                go_wp2_with fail
                refine hc.mono ?_
                rintro e w1 ⟨rfl, d1, hM, S2⟩
                have hz : d1.size = d.size := hM.1.1.1.trans hds
                have HM : Aside (Merged (ltOf cf) A d.size dk d1) := hM
                have S3 : Aside (SWK enc k w0 blk off d1 w1) := S2
                clear S1 S2 hc hM
                go_wp2
                go_roundg (d.size - (s + s))
                case measure => omega
                case rel =>
                  have ha := HA.out
                  exact ⟨s + s, d1, by go_num, by omega, by omega, Nat.le_refl _, hz, S3, half_runs HH.out (by omega) (by omega) (by omega) (by rw [← ha]; exact HM.out), HK.out.trans (HM.out.1.mono (Nat.zero_le _) hAn (Nat.le_refl _) (by omega))⟩
              · have hmz : ¬ (A : Int) + (s : Int) < (d.size : Int) := by omega
                go_wp2
                go_roundg (d.size - (s + s))
                case measure => omega
                case rel =>
                  have ha := HA.out
                  exact ⟨s + s, dk, by go_num, by omega, by omega, Nat.le_refl _, hds, S1, half_runs HH.out (by omega) (by omega) (by omega) ⟨Keep.refl _ _ _, half_last HH.out (by omega)⟩, HK⟩
        · have hltz : ¬ (s : Int) < (d.size : Int) := by omega
          go_wp2
          go_end0
          exact ⟨rfl, dk, ⟨HK.out, runs_whole HR.out (by omega)⟩, S1.out⟩

set_option maxHeartbeats 16000000 in
set_option maxRecDepth 1000000 in
theorem sortStable_P (k : Nat) (aE : ∀ w, (isAgg 150).run Try.prog w = .ok true w) (zE : ∀ w, (Go.sizeOf 150).run Try.prog w = .ok k w) (enc : α → List Value) (cf : α → α → Int) (hS : SWO (ltOf cf)) (g : Nat) (cb : Array Value) (blk off cap : Nat) (d0 : Array α) (w0 : World)
    (eg : ∀ args w, (callFunc g args).run Try.prog w = .ok (.enter g args) w) (hcmp : CmpLays Try.prog g cb enc k cf blk off d0.size w0) (R : RowK enc k w0 blk off d0) (hsz : d0.size < 1000000) :
    Calls Try.prog 80 #[.slice (some ⟨blk, off, none⟩) d0.size cap, .func (.func g) #[] cb] w0 fun e w' => e = .returned (.tuple #[]) ∧ ∃ d', Merged (ltOf cf) 0 d0.size d0 d' ∧ SWK enc k w0 blk off d' w' := by
  have hc := stable_P k aE zE enc cf hS g cb blk off cap d0 w0 eg hcmp R hsz d0 w0 rfl (SWK.start R.hH)
  clear hcmp R
  go_enter Try.func80, Try.ntmps80
  go_wp2_with fail
  refine hc.mono ?_
  rintro e w1 ⟨rfl, d1, hM, S2⟩
  have HM : Aside _ := hM
  have HS : Aside _ := S2
  clear hM S2 hc
  go_wp2
  go_end0
  exact ⟨rfl, d1, HM.out, HS.out⟩

end Go.Proofs.Ytcmgfmpmapnckaa
