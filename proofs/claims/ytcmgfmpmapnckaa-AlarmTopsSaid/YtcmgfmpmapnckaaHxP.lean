/- Walks of the stable sort at both element types. Written by wip/gensort.py. -/
import Derived.Test.YtcmgfmpmapnckaaHw
import Derived.Test.YtcmgfmpmapnckaaSu
import Derived.Shelf.SlSortCmp.KitK
import Derived.Sort.WalkB2
import Derived.Sort.WalkB12
import Derived.Deep.LoopGhost
namespace Go.Proofs.Ytcmgfmpmapnckaa
open Go.Shelf Go.RowKit Go.Lib Go.Sort
set_option linter.unusedVariables false
set_option linter.unusedSimpArgs false
variable {α : Type} [Inhabited α]

set_option maxHeartbeats 16000000 in
set_option maxRecDepth 1000000 in
theorem symMergeFirst_P (k : Nat) (aE : ∀ w, (isAgg 150).run Try.prog w = .ok true w) (zE : ∀ w, (Go.sizeOf 150).run Try.prog w = .ok k w) (enc : α → List Value) (cf : α → α → Int) (hS : SWO (ltOf cf)) (g : Nat) (cb : Array Value) (blk off cap : Nat) (d0 : Array α) (w0 : World)
    (eg : ∀ args w, (callFunc g args).run Try.prog w = .ok (.enter g args) w) (hcmp : CmpLays Try.prog g cb enc k cf blk off d0.size w0) (R : RowK enc k w0 blk off d0) (hsz : d0.size < 1000000)
    (a m b : Nat) (d : Array α) (w : World) (hs : d0.size = d.size) (S : SWK enc k w0 blk off d w) (ham : m = a + 1) (hmb : m < b) (hb : b ≤ d.size) (hB : SortedIn (ltOf cf) m b d) :
    Calls Try.prog 143 #[.slice (some ⟨blk, off, none⟩) d.size cap, .int .i64 a, .int .i64 m, .int .i64 b, .func (.func g) #[] cb] w fun e w' => e = .returned (.tuple #[]) ∧ ∃ d', Merged (ltOf cf) a b d d' ∧ SWK enc k w0 blk off d' w' := by
  have HC : Aside _ := hcmp
  have S0 : Aside (SWK enc k w0 blk off d w) := S
  have HB : Aside (SortedIn (ltOf cf) m b d) := hB
  clear S hcmp hB
  have mixed : Try.prog.follows Departure.mixedOrders = true := by kernel_rfl
  have r1 : IntKind.i64.wrap ((m : Int) - (a : Int)) = 1 := by rw [IntKind.wrap_i64]; omega
  have r2 : (m : Int) - (a : Int) = 1 := by omega
  have ham1 : a < m := by omega
  have ham2 : m ≤ a + 1 := by omega
  clear ham
  go_enter Try.func143, Try.ntmps143
  go_wp2
  clear r1 r2
  go_loopg [10, 11] (b - m) (fun kx s10 s11 wr => ∃ i j : Nat, s10 = .int .i64 i ∧ s11 = .int .i64 j ∧ m ≤ i ∧ i ≤ j ∧ j ≤ b ∧ j - i ≤ kx ∧ Aside (SWK enc k w0 blk off d wr) ∧ Aside ((m < i → ltOf cf d[i - 1]! d[a]! = true) ∧ (j < b → ltOf cf d[j]! d[a]! = false)))
  case atStart => exact ⟨m, b, rfl, rfl, Nat.le_refl _, by omega, Nat.le_refl _, by omega, S0, (⟨fun h => absurd h (by omega), fun h => absurd h (by omega)⟩ : (_ → _) ∧ (_ → _))⟩
  case round =>
    clear S0
    obtain ⟨i, j, rfl, rfl, hmi, hij, hjb, hkx, S1, I⟩ := hrel
    by_cases hlt : i < j
    · skip
      obtain ⟨h, hh⟩ : ∃ h : Nat, h = (i + j) / 2 := ⟨_, rfl⟩
      have h1 : i ≤ h := by omega
      have h2 : h < j := by omega
      have eh : ((i : Int) + (j : Int)) / 2 = (h : Int) := by omega
      have hltz : (i : Int) < (j : Int) := by omega
      clear hh
      have ea : ((h : Int)).toNat = h := by omega
      have pa : (0 : Int) ≤ (h : Int) := by omega
      have ba : (h : Int) < (d.size : Int) := by omega
      have ec : ((a : Int)).toNat = a := by omega
      have pc : (0 : Int) ≤ (a : Int) := by omega
      have bc : (a : Int) < (d.size : Int) := by omega
      obtain ⟨xx, hx⟩ : ∃ x, x = d[h]! := ⟨_, rfl⟩
      obtain ⟨yy, hy⟩ : ∃ x, x = d[a]! := ⟨_, rfl⟩
      have la := S1.out.ld R (by omega) Try.prog (h) (by omega)
      have lb := S1.out.ld R (by omega) Try.prog (a) (by omega)
      rw [← hx] at la
      rw [← hy] at lb
      have hc := S1.out.cmp HC.out (by omega) xx yy
      have HT : Aside ((cf xx yy < 0 → ltOf cf d[h]! d[a]! = true) ∧ (¬ cf xx yy < 0 → ltOf cf d[h]! d[a]! = false)) := by
        rw [← hx, ← hy]; exact (⟨fun h => (decide_eq_true h : decide (cf xx yy < 0) = true), fun h => (decide_eq_false h : decide (cf xx yy < 0) = false)⟩ : (_ → _) ∧ (_ → _))
      by_cases hv : cf xx yy < 0
      · have hd : decide (cf xx yy < 0) = true := decide_eq_true hv
        clear hx hy
        go_wp2_with fail
        go_quiet_grown (first | (go_at_fn g; refine Calls.grown_of (hc _ _)))
        have S2 : Aside (SWK enc k w0 blk off d (grow (wr.drewN nq) osq)) := S1.out.grown nq osq
        clear la lb hc S1
        generalize grow (wr.drewN nq) osq = wu at S2 ⊢
        clear nq osq
        go_wp2
        go_roundg (j - (h + 1))
        case measure => omega
        case rel => exact ⟨h + 1, j, by go_num, rfl, by omega, by omega, hjb, Nat.le_refl _, S2, ⟨fun _ => HT.out.1 hv, I.out.2⟩⟩
      · have hd : decide (cf xx yy < 0) = false := decide_eq_false hv
        clear hx hy
        go_wp2_with fail
        go_quiet_grown (first | (go_at_fn g; refine Calls.grown_of (hc _ _)))
        have S2 : Aside (SWK enc k w0 blk off d (grow (wr.drewN nq) osq)) := S1.out.grown nq osq
        clear la lb hc S1
        generalize grow (wr.drewN nq) osq = wu at S2 ⊢
        clear nq osq
        go_wp2
        go_roundg (h - i)
        case measure => omega
        case rel => exact ⟨i, h, rfl, by go_num, hmi, by omega, by omega, Nat.le_refl _, S2, ⟨I.out.1, fun _ => HT.out.2 hv⟩⟩
    · obtain rfl : i = j := by omega
      have hnot : ¬ (i : Int) < (i : Int) := by omega
      have r3 : IntKind.i64.wrap ((i : Int) - 1) = (i : Int) - 1 := by rw [IntKind.wrap_i64]; omega
      go_wp2
      go_loopg [13] (i - a) (fun kx s13 wr => ∃ (q : Nat) (dk : Array α), s13 = .int .i64 q ∧ a ≤ q ∧ q + 1 ≤ i ∧ i - q ≤ kx ∧ dk.size = d.size ∧ Aside (SWK enc k w0 blk off dk wr) ∧ Aside (Rot a (a + 1) (q + 1) d dk))
      case atStart => exact ⟨a, d, rfl, Nat.le_refl _, by omega, Nat.le_refl _, rfl, S1, Rot.refl_right a (a + 1) d⟩
      case round =>
        clear S1
        obtain ⟨q, dk, rfl, haq, hqi, hkq, hds, S3, HR⟩ := hrel
        by_cases hq : q + 1 < i
        · have hqz : (q : Int) < (i : Int) - 1 := by omega
          have ea : ((q : Int)).toNat = q := by omega
          have pa : (0 : Int) ≤ (q : Int) := by omega
          have ba : (q : Int) < (d.size : Int) := by omega
          have ra : IntKind.i64.wrap ((q : Int)) = (q : Int) := by rw [IntKind.wrap_i64]; omega
          have ec : ((q : Int) + 1).toNat = q + 1 := by omega
          have pc : (0 : Int) ≤ (q : Int) + 1 := by omega
          have bc : (q : Int) + 1 < (d.size : Int) := by omega
          have rc : IntKind.i64.wrap ((q : Int) + 1) = (q : Int) + 1 := by rw [IntKind.wrap_i64]; omega
          have S4 : Aside (SWK enc k w0 blk off (swp dk (q) (q + 1)) ((wr.drew.setCells blk (off + (q) * k) (enc dk[q + 1]!)).setCells blk (off + (q + 1) * k) (enc dk[q]!))) := S3.out.swapped R (q) (q + 1) (by omega) (by omega)
          have la := S3.out.ld1 R (by omega) Try.prog (q) (by omega)
          have lb := S3.out.ld1 R (by omega) Try.prog (q + 1) (by omega)
          have sa := S3.out.st1 R (by omega) Try.prog (q) (by omega) dk[q + 1]!
          have sb := S3.out.st2 R (by omega) Try.prog (q) (q + 1) (by omega) (by omega) dk[q + 1]! dk[q]!
          have na : (enc dk[q]!).length = k := R.hk _
          have nb : (enc dk[q + 1]!).length = k := R.hk _
          generalize enc dk[q]! = cI at S4 la sb na
          generalize enc dk[q + 1]! = cJ at S4 lb sa sb nb
          clear S3
          go_wp2_with fail
          go_big_region_o
          clear la lb sa sb
          generalize (wr.drew.setCells blk (off + (q) * k) cJ).setCells blk (off + (q + 1) * k) cI = w2 at S4 ⊢
          go_wp2
          go_roundg (i - (q + 1))
          case measure => omega
          case rel => exact ⟨q + 1, swp dk q (q + 1), by go_num, by omega, by omega, Nat.le_refl _, by rw [size_swp]; exact hds, S4, HR.out.push haq (by omega)⟩
        · have hqz : ¬ (q : Int) < (i : Int) - 1 := by omega
          go_wp2
          (try simp only [Exit.inBlock, Exit.then])
          refine bodyPost_ret (results_none rfl _ _ _) rfl ?_
          obtain rfl : i = q + 1 := by omega
          obtain rfl : m = a + 1 := by omega
          exact ⟨rfl, dk, merge_first hS (by omega) (by omega) (by omega) HB.out HR.out (fun h => I.out.1 (by omega)) (fun h => I.out.2 (by omega)), S3.out⟩

end Go.Proofs.Ytcmgfmpmapnckaa
