/- Walks of the stable sort at both element types. Written by wip/gensort.py. -/
import Derived.Test.YtcmgfmpmapnckaaHw
import Derived.Test.YtcmgfmpmapnckaaSu
import Derived.Shelf.SlSortCmp.KitK
import Derived.Sort.WalkB2
import Derived.Sort.WalkB12
import Derived.Deep.LoopGhost
namespace Go.Proofs.Ytcmgfmpmapnckaa
open Go.Shelf Go.RowKit Go.Lib Go.Sort
set_option linter.unusedVariables false
set_option linter.unusedSimpArgs false
variable {α : Type} [Inhabited α]

set_option maxHeartbeats 16000000 in
set_option maxRecDepth 1000000 in
theorem symMergeLast_G (k : Nat) (aE : ∀ w, (isAgg 57).run Try.prog w = .ok true w) (zE : ∀ w, (Go.sizeOf 57).run Try.prog w = .ok k w) (enc : α → List Value) (cf : α → α → Int) (hS : SWO (ltOf cf)) (g : Nat) (cb : Array Value) (blk off cap : Nat) (d0 : Array α) (w0 : World)
    (eg : ∀ args w, (callFunc g args).run Try.prog w = .ok (.enter g args) w) (hcmp : CmpLays Try.prog g cb enc k cf blk off d0.size w0) (R : RowK enc k w0 blk off d0) (hsz : d0.size < 1000000)
    (a m b : Nat) (d : Array α) (w : World) (hs : d0.size = d.size) (S : SWK enc k w0 blk off d w) (ham : a + 1 < m) (hmb : b = m + 1) (hb : b ≤ d.size) (hA : SortedIn (ltOf cf) a m d) :
    Calls Try.prog 133 #[.slice (some ⟨blk, off, none⟩) d.size cap, .int .i64 a, .int .i64 m, .int .i64 b, .func (.func g) #[] cb] w fun e w' => e = .returned (.tuple #[]) ∧ ∃ d', Merged (ltOf cf) a b d d' ∧ SWK enc k w0 blk off d' w' := by
  have HC : Aside _ := hcmp
  have S0 : Aside (SWK enc k w0 blk off d w) := S
  have HA : Aside (SortedIn (ltOf cf) a m d) := hA
  clear S hcmp hA
  have mixed : Try.prog.follows Departure.mixedOrders = true := by kernel_rfl
  have r0 : (((m : Int) - (a : Int)) == 1) = false := by rw [beq_eq_false_iff_ne]; omega
  have r1 : IntKind.i64.wrap ((b : Int) - (m : Int)) = 1 := by rw [IntKind.wrap_i64]; omega
  have r2 : (b : Int) - (m : Int) = 1 := by omega
  have hmb1 : m < b := by omega
  have hmb2 : b ≤ m + 1 := by omega
  clear hmb
  go_enter Try.func133, Try.ntmps133
  go_wp2
  clear r0 r1 r2
  go_loopg [14, 15] (m - a) (fun kx s14 s15 wr => ∃ i j : Nat, s14 = .int .i64 i ∧ s15 = .int .i64 j ∧ a ≤ i ∧ i ≤ j ∧ j ≤ m ∧ j - i ≤ kx ∧ Aside (SWK enc k w0 blk off d wr) ∧ Aside ((a < i → ltOf cf d[m]! d[i - 1]! = false) ∧ (j < m → ltOf cf d[m]! d[j]! = true)))
  case atStart => exact ⟨a, m, rfl, rfl, Nat.le_refl _, by omega, Nat.le_refl _, by omega, S0, (⟨fun h => absurd h (by omega), fun h => absurd h (by omega)⟩ : (_ → _) ∧ (_ → _))⟩
  case round =>
    clear S0
    obtain ⟨i, j, rfl, rfl, hmi, hij, hjb, hkx, S1, I⟩ := hrel
    by_cases hlt : i < j
    · skip
      obtain ⟨h, hh⟩ : ∃ h : Nat, h = (i + j) / 2 := ⟨_, rfl⟩
      have h1 : i ≤ h := by omega
      have h2 : h < j := by omega
      have eh : ((i : Int) + (j : Int)) / 2 = (h : Int) := by omega
      have hltz : (i : Int) < (j : Int) := by omega
      clear hh
      have ea : ((h : Int)).toNat = h := by omega
      have pa : (0 : Int) ≤ (h : Int) := by omega
      have ba : (h : Int) < (d.size : Int) := by omega
      have ec : ((m : Int)).toNat = m := by omega
      have pc : (0 : Int) ≤ (m : Int) := by omega
      have bc : (m : Int) < (d.size : Int) := by omega
      obtain ⟨xx, hx⟩ : ∃ x, x = d[m]! := ⟨_, rfl⟩
      obtain ⟨yy, hy⟩ : ∃ x, x = d[h]! := ⟨_, rfl⟩
      have la := S1.out.ld R (by omega) Try.prog (m) (by omega)
      have lb := S1.out.ld R (by omega) Try.prog (h) (by omega)
      rw [← hx] at la
      rw [← hy] at lb
      have hc := S1.out.cmp HC.out (by omega) xx yy
      have HT : Aside ((cf xx yy < 0 → ltOf cf d[m]! d[h]! = true) ∧ (¬ cf xx yy < 0 → ltOf cf d[m]! d[h]! = false)) := by
        rw [← hx, ← hy]; exact (⟨fun h => (decide_eq_true h : decide (cf xx yy < 0) = true), fun h => (decide_eq_false h : decide (cf xx yy < 0) = false)⟩ : (_ → _) ∧ (_ → _))
      by_cases hv : cf xx yy < 0
      · have hd : decide (cf xx yy < 0) = true := decide_eq_true hv
        clear hx hy
        go_wp2_with fail
        go_quiet_grown (first | (go_at_fn g; refine Calls.grown_of (hc _ _)))
        have S2 : Aside (SWK enc k w0 blk off d (grow (wr.drewN nq) osq)) := S1.out.grown nq osq
        clear la lb hc S1
        generalize grow (wr.drewN nq) osq = wu at S2 ⊢
        clear nq osq
        go_wp2
        go_roundg (h - i)
        case measure => omega
        case rel => exact ⟨i, h, rfl, by go_num, hmi, by omega, by omega, Nat.le_refl _, S2, ⟨I.out.1, fun _ => HT.out.1 hv⟩⟩
      · have hd : decide (cf xx yy < 0) = false := decide_eq_false hv
        clear hx hy
        go_wp2_with fail
        go_quiet_grown (first | (go_at_fn g; refine Calls.grown_of (hc _ _)))
        have S2 : Aside (SWK enc k w0 blk off d (grow (wr.drewN nq) osq)) := S1.out.grown nq osq
        clear la lb hc S1
        generalize grow (wr.drewN nq) osq = wu at S2 ⊢
        clear nq osq
        go_wp2
        go_roundg (j - (h + 1))
        case measure => omega
        case rel => exact ⟨h + 1, j, by go_num, rfl, by omega, by omega, hjb, Nat.le_refl _, S2, ⟨fun _ => HT.out.2 hv, I.out.2⟩⟩
    · obtain rfl : i = j := by omega
      have hnot : ¬ (i : Int) < (i : Int) := by omega
      go_wp2
      go_loopg [17] (m - i) (fun kx s13 wr => ∃ (q : Nat) (dk : Array α), s13 = .int .i64 q ∧ i ≤ q ∧ q ≤ m ∧ q - i ≤ kx ∧ dk.size = d.size ∧ Aside (SWK enc k w0 blk off dk wr) ∧ Aside (Rot q m (m + 1) d dk))
      case atStart => exact ⟨m, d, rfl, hjb, Nat.le_refl _, Nat.le_refl _, rfl, S1, Rot.refl_left m (m + 1) d⟩
      case round =>
        clear S1
        obtain ⟨q, dk, rfl, hiq, hqm, hkq, hds, S3, HR⟩ := hrel
        by_cases hq : i < q
        · obtain ⟨x, hx⟩ : ∃ x : Nat, x + 1 = q := ⟨q - 1, by omega⟩
          have HX : Aside (x + 1 = q) := hx
          have hqz : (i : Int) < (q : Int) := by omega
          have ec : ((q : Int) - 1).toNat = x := by omega
          have pc : (0 : Int) ≤ (q : Int) - 1 := by omega
          have bc : (q : Int) - 1 < (d.size : Int) := by omega
          have rc : IntKind.i64.wrap ((q : Int) - 1) = (q : Int) - 1 := by rw [IntKind.wrap_i64]; omega
          have hx1 : x < d.size := by omega
          have hx2 : (q : Int) - 1 = (x : Int) := by omega
          clear hx
          have ea : ((q : Int)).toNat = q := by omega
          have pa : (0 : Int) ≤ (q : Int) := by omega
          have ba : (q : Int) < (d.size : Int) := by omega
          have ra : IntKind.i64.wrap ((q : Int)) = (q : Int) := by rw [IntKind.wrap_i64]; omega
          clear hx2
          have S4 : Aside (SWK enc k w0 blk off (swp dk (q) (x)) ((wr.drew.setCells blk (off + (q) * k) (enc dk[x]!)).setCells blk (off + (x) * k) (enc dk[q]!))) := S3.out.swapped R (q) (x) (by omega) (by omega)
          have la := S3.out.ld1 R (by omega) Try.prog (q) (by omega)
          have lb := S3.out.ld1 R (by omega) Try.prog (x) (by omega)
          have sa := S3.out.st1 R (by omega) Try.prog (q) (by omega) dk[x]!
          have sb := S3.out.st2 R (by omega) Try.prog (q) (x) (by omega) (by omega) dk[x]! dk[q]!
          have na : (enc dk[q]!).length = k := R.hk _
          have nb : (enc dk[x]!).length = k := R.hk _
          generalize enc dk[q]! = cI at S4 la sb na
          generalize enc dk[x]! = cJ at S4 lb sa sb nb
          clear S3
          go_wp2_with fail
          go_big_region_o
          clear la lb sa sb
          generalize (wr.drew.setCells blk (off + (q) * k) cJ).setCells blk (off + (x) * k) cI = w2 at S4 ⊢
          go_wp2
          have hx := HX.out
          go_roundg (q - 1 - i)
          case measure => omega
          case rel => exact ⟨q - 1, swp dk q x, by go_num, by omega, by omega, Nat.le_refl _, by rw [size_swp]; exact hds, S4, by
            have hR : Rot (x + 1) m (m + 1) d dk := by rw [hx]; exact HR.out
            have := hR.pull (by omega) (by omega)
            rw [hx] at this
            rw [show q - 1 = x by omega]
            exact this⟩
        · have hqz : ¬ (i : Int) < (q : Int) := by omega
          go_wp2
          (try simp only [Exit.inBlock, Exit.then])
          refine bodyPost_ret (results_none rfl _ _ _) rfl ?_
          obtain rfl : i = q := by omega
          obtain rfl : b = m + 1 := by omega
          exact ⟨rfl, dk, merge_last hS (by omega) (by omega) (by omega) HA.out HR.out (fun h => I.out.1 (by omega)) (fun h => I.out.2 (by omega)), S3.out⟩

end Go.Proofs.Ytcmgfmpmapnckaa
