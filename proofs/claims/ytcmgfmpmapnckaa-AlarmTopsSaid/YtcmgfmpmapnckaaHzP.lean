/- Walks of the stable sort at both element types. Written by wip/gensort.py. -/
import Derived.Test.YtcmgfmpmapnckaaHw
import Derived.Test.YtcmgfmpmapnckaaSu
import Derived.Shelf.SlSortCmp.KitK
import Derived.Sort.WalkB2
import Derived.Sort.WalkB12
import Derived.Deep.LoopGhost
import Derived.Deep.DeepCutAuto
namespace Go.Proofs.Ytcmgfmpmapnckaa
open Go.Shelf Go.RowKit Go.Lib Go.Sort
set_option linter.unusedVariables false
set_option linter.unusedSimpArgs false
variable {α : Type} [Inhabited α]

set_option maxHeartbeats 16000000 in
set_option maxRecDepth 1000000 in
theorem symMergeGen_P (k : Nat) (aE : ∀ w, (isAgg 150).run Try.prog w = .ok true w) (zE : ∀ w, (Go.sizeOf 150).run Try.prog w = .ok k w) (enc : α → List Value) (cf : α → α → Int) (hS : SWO (ltOf cf)) (g : Nat) (cb : Array Value) (blk off cap : Nat) (d0 : Array α) (w0 : World)
    (eg : ∀ args w, (callFunc g args).run Try.prog w = .ok (.enter g args) w) (hcmp : CmpLays Try.prog g cb enc k cf blk off d0.size w0) (R : RowK enc k w0 blk off d0) (hsz : d0.size < 1000000)
    (a m b : Nat) (d : Array α) (w : World) (ih : ∀ (a' m' b' : Nat) (d' : Array α) (w' : World), b' - a' < b - a → d0.size = d'.size → SWK enc k w0 blk off d' w' → a' < m' → m' < b' → b' ≤ d'.size → SortedIn (ltOf cf) a' m' d' → SortedIn (ltOf cf) m' b' d' → Calls Try.prog 143 #[.slice (some ⟨blk, off, none⟩) d'.size cap, .int .i64 a', .int .i64 m', .int .i64 b', .func (.func g) #[] cb] w' fun e w'' => e = .returned (.tuple #[]) ∧ ∃ d'', Merged (ltOf cf) a' b' d' d'' ∧ SWK enc k w0 blk off d'' w'') (hs : d0.size = d.size) (S : SWK enc k w0 blk off d w) (ham : a + 1 < m) (hmb : m + 1 < b) (hb : b ≤ d.size) (hA : SortedIn (ltOf cf) a m d) (hB : SortedIn (ltOf cf) m b d) :
    Calls Try.prog 143 #[.slice (some ⟨blk, off, none⟩) d.size cap, .int .i64 a, .int .i64 m, .int .i64 b, .func (.func g) #[] cb] w fun e w' => e = .returned (.tuple #[]) ∧ ∃ d', Merged (ltOf cf) a b d d' ∧ SWK enc k w0 blk off d' w' := by
  have HC : Aside _ := hcmp
  have S0 : Aside (SWK enc k w0 blk off d w) := S
  have HA : Aside (SortedIn (ltOf cf) a m d) := hA
  have HB : Aside (SortedIn (ltOf cf) m b d) := hB
  have IH := Lib.hid ih
  clear S hcmp hA hB ih
  have mixed : Try.prog.follows Departure.mixedOrders = true := by kernel_rfl
  have r0 : (((m : Int) - (a : Int)) == 1) = false := by rw [beq_eq_false_iff_ne]; omega
  have r1 : (((b : Int) - (m : Int)) == 1) = false := by rw [beq_eq_false_iff_ne]; omega
  obtain ⟨mid, hmid⟩ : ∃ mid : Nat, mid = (a + b) / 2 := ⟨_, rfl⟩
  have hmid1 : 2 * mid ≤ a + b := by omega
  have hmid2 : a + b ≤ 2 * mid + 1 := by omega
  have emid : ((a : Int) + (b : Int)) / 2 = (mid : Int) := by omega
  clear hmid
  have hamid : a < mid := by omega
  have hmidb : mid < b := by omega
  obtain ⟨n, hn⟩ : ∃ n : Nat, n = mid + m := ⟨_, rfl⟩
  have HN : Aside (n = mid + m) := hn
  have en : (mid : Int) + (m : Int) = (n : Int) := by omega
  have hnb : n < 2000000 := by omega
  clear hn
  go_enter Try.func143, Try.ntmps143
  go_upto_if 140 with fail
  clear emid en r0 r1
  go_cut [20, 21] from 138 to 148 (fun s20 s21 wx => ∃ i0 q0 : Nat, s20 = .int .i64 i0 ∧ s21 = .int .i64 q0 ∧ a ≤ i0 ∧ i0 ≤ q0 ∧ q0 ≤ m ∧ q0 ≤ mid ∧ n ≤ i0 + b ∧ Aside ((a < i0 → n = i0 + b) ∧ (q0 < m → q0 = mid)) ∧ Aside (SWK enc k w0 blk off d wx))
  case first =>
    by_cases hm : mid < m
    · have hmz : (mid : Int) < (m : Int) := by omega
      go_wp2
      go_meet
      have hn := HN.out
      exact ⟨n - b, mid, by go_num, rfl, by omega, by omega, by omega, Nat.le_refl _, by omega, (⟨fun _ => by omega, fun _ => rfl⟩ : (_ → _) ∧ (_ → _)), S0⟩
    · have hmz : ¬ (mid : Int) < (m : Int) := by omega
      go_wp2
      go_meet
      have hn := HN.out
      exact ⟨a, m, rfl, rfl, Nat.le_refl _, by omega, Nat.le_refl _, by omega, by omega, (⟨fun h => absurd h (by omega), fun h => absurd h (by omega)⟩ : (_ → _) ∧ (_ → _)), S0⟩
  case rest =>
    clear S0
    obtain ⟨i0, q0, rfl, rfl, hai0, hiq0, hq0m, hq0mid, hni0, Z, S0⟩ := hcut
    have hn := HN.out
    obtain ⟨p, hp⟩ : ∃ p : Nat, p + 1 = n := ⟨n - 1, by omega⟩
    clear hn
    have HP : Aside (p + 1 = n) := hp
    have ep : (n : Int) - 1 = (p : Int) := by omega
    have hpb : p < 2000000 := by omega
    clear hp
    go_wp2
    clear ep
    go_loopg [20, 21] (q0 - i0) (fun kx s20 s21 wr => ∃ i j : Nat, s20 = .int .i64 i ∧ s21 = .int .i64 j ∧ i0 ≤ i ∧ i ≤ j ∧ j ≤ q0 ∧ j - i ≤ kx ∧ Aside (SWK enc k w0 blk off d wr) ∧ Aside ((i0 < i → ltOf cf d[p - (i - 1)]! d[i - 1]! = false) ∧ (j < q0 → ltOf cf d[p - j]! d[j]! = true)))
    case atStart => exact ⟨i0, q0, rfl, rfl, Nat.le_refl _, hiq0, Nat.le_refl _, Nat.le_refl _, S0, (⟨fun h => absurd h (by omega), fun h => absurd h (by omega)⟩ : (_ → _) ∧ (_ → _))⟩
    case round =>
      clear S0
      obtain ⟨i, j, rfl, rfl, hmi, hij, hjb, hkx, S1, I⟩ := hrel
      by_cases hlt : i < j
      · skip
        obtain ⟨h, hh⟩ : ∃ h : Nat, h = (i + j) / 2 := ⟨_, rfl⟩
        have h1 : i ≤ h := by omega
        have h2 : h < j := by omega
        have eh : ((i : Int) + (j : Int)) / 2 = (h : Int) := by omega
        have hltz : (i : Int) < (j : Int) := by omega
        clear hh
        have hn := HN.out
        have hp := HP.out
        obtain ⟨pc, hpc⟩ : ∃ pc : Nat, pc + h = p := ⟨p - h, by omega⟩
        have HPC : Aside (pc + h = p) := hpc
        have hpc1 : pc < d.size := by omega
        have hhp : h ≤ p := by omega
        have hhpz : (h : Int) ≤ (p : Int) := by omega
        have ea : ((p : Int) - (h : Int)).toNat = pc := by omega
        have pa : (0 : Int) ≤ (p : Int) - (h : Int) := by omega
        have ba : (p : Int) - (h : Int) < (d.size : Int) := by omega
        have ra : IntKind.i64.wrap ((p : Int) - (h : Int)) = (p : Int) - (h : Int) := wrap_small _ (by omega) (by omega)
        clear hn hp hpc
        have ez : ((h : Int)).toNat = h := by omega
        have pz : (0 : Int) ≤ (h : Int) := by omega
        have bz : (h : Int) < (d.size : Int) := by omega
        obtain ⟨xx, hx⟩ : ∃ x, x = d[pc]! := ⟨_, rfl⟩
        obtain ⟨yy, hy⟩ : ∃ x, x = d[h]! := ⟨_, rfl⟩
        have la := S1.out.ld R (by omega) Try.prog (pc) (by omega)
        have lb := S1.out.ld R (by omega) Try.prog (h) (by omega)
        rw [← hx] at la
        rw [← hy] at lb
        have hc := S1.out.cmp HC.out (by omega) xx yy
        have HT : Aside ((cf xx yy < 0 → ltOf cf d[pc]! d[h]! = true) ∧ (¬ cf xx yy < 0 → ltOf cf d[pc]! d[h]! = false)) := by
          rw [← hx, ← hy]; exact (⟨fun h => (decide_eq_true h : decide (cf xx yy < 0) = true), fun h => (decide_eq_false h : decide (cf xx yy < 0) = false)⟩ : (_ → _) ∧ (_ → _))
        by_cases hv : cf xx yy < 0
        · have hd : decide (cf xx yy < 0) = true := decide_eq_true hv
          clear hx hy
          go_wp2_with fail
          go_quiet_grown (first | (go_at_fn g; refine Calls.grown_of (hc _ _)))
          have S2 : Aside (SWK enc k w0 blk off d (grow (wr.drewN nq) osq)) := S1.out.grown nq osq
          clear la lb hc S1
          generalize grow (wr.drewN nq) osq = wu at S2 ⊢
          clear nq osq
          go_wp2
          have hpc := HPC.out
          go_roundg (h - i)
          case measure => omega
          case rel => exact ⟨i, h, rfl, by go_num, hmi, by omega, by omega, Nat.le_refl _, S2, ⟨I.out.1, fun _ => by have := HT.out.1 hv; rwa [show p - h = pc by omega]⟩⟩
        · have hd : decide (cf xx yy < 0) = false := decide_eq_false hv
          clear hx hy
          go_wp2_with fail
          go_quiet_grown (first | (go_at_fn g; refine Calls.grown_of (hc _ _)))
          have S2 : Aside (SWK enc k w0 blk off d (grow (wr.drewN nq) osq)) := S1.out.grown nq osq
          clear la lb hc S1
          generalize grow (wr.drewN nq) osq = wu at S2 ⊢
          clear nq osq
          go_wp2
          have hpc := HPC.out
          go_roundg (j - (h + 1))
          case measure => omega
          case rel => exact ⟨h + 1, j, by go_num, rfl, by omega, by omega, hjb, Nat.le_refl _, S2, ⟨fun _ => by have := HT.out.2 hv; rwa [show p - (h + 1 - 1) = pc by omega, show h + 1 - 1 = h by omega], I.out.2⟩⟩
      · have hn := HN.out
        have hp := HP.out
        obtain rfl : i = j := by omega
        have hnot : ¬ (i : Int) < (i : Int) := by omega
        obtain ⟨e, he⟩ : ∃ e : Nat, e + i = n := ⟨n - i, by omega⟩
        have HE : Aside (e + i = n) := he
        have ee : (n : Int) - (i : Int) = (e : Int) := by omega
        have hme : m ≤ e := by omega
        have heb : e ≤ b := by omega
        have him : i ≤ m := by omega
        have himid : i ≤ mid := by omega
        have hai : a ≤ i := by omega
        have hmide : mid ≤ e := by omega
        have hlo : Aside (a < i → e < b → ltOf cf d[e]! d[i - 1]! = false) := fun h1 h2 => by
          by_cases hx : i0 < i
          · have := I.out.1 hx; rwa [show p - (i - 1) = e by omega] at this
          · have := Z.out.1 (by omega); omega
        have hhi : Aside (i < m → i < mid → ltOf cf d[e - 1]! d[i]! = true) := fun h1 h2 => by
          by_cases hx : i < q0
          · have := I.out.2 hx; rwa [show p - i = e - 1 by omega] at this
          · have := Z.out.2 (by omega); omega
        clear hn hp he I Z
        go_upto_region 39 with fail
        clear ee
        go_cut [185] from 178 to 185 (fun s wx => ∃ q : Bool, s = .bool q ∧ Aside (q = true ↔ i < m ∧ m < e) ∧ Aside (SWK enc k w0 blk off d wx))
        case first =>
          by_cases hA : i < m
          · have hAz : (i : Int) < (m : Int) := by omega
            by_cases hB : m < e
            · have hBz : (m : Int) < (e : Int) := by omega
              go_wp2
              go_meet
              exact ⟨true, rfl, (⟨fun _ => ⟨hA, hB⟩, fun _ => rfl⟩ : _ ↔ _), S1⟩
            · have hBz : ¬ (m : Int) < (e : Int) := by omega
              go_wp2
              go_meet
              exact ⟨false, rfl, (⟨(fun h => by cases h), fun h => absurd h.2 hB⟩ : _ ↔ _), S1⟩
          · have hAz : ¬ (i : Int) < (m : Int) := by omega
            go_wp2
            go_meet
            exact ⟨false, rfl, (⟨(fun h => by cases h), fun h => absurd h.1 hA⟩ : _ ↔ _), S1⟩
        case rest =>
          clear S1
          obtain ⟨q, rfl, HQ, S1⟩ := hcut
          go_upto_if 185 with fail
          go_cut [] from 186 to 191 (fun wx => ∃ d1 : Array α, d1.size = d.size ∧ Aside (SWK enc k w0 blk off d1 wx) ∧ Aside (Rot i m e d d1))
          case first =>
            cases q with
            | true =>
              have hAB := HQ.out.1 rfl
              have hc := rotate_P k zE enc g cb blk off cap i m e d0 d w0 _ R hs S1.out hAB.1 hAB.2 (by omega) (by omega)
              clear hAB HQ
              go_wp2_with fail
              refine hc.mono ?_
              rintro e' w1 ⟨rfl, d1, hx, S2⟩
              have hz : d1.size = d.size := hx.1
              have HX : Aside (Rot i m e d d1) := hx
              have S3 : Aside (SWK enc k w0 blk off d1 w1) := S2
              clear S1 S2 hc hx
              go_wp2
              go_meet
              exact ⟨d1, hz, S3, HX⟩
            | false =>
              go_wp2
              go_meet
              refine ⟨d, rfl, S1, ?_⟩
              show Rot i m e d d
              have hq : ¬ (i < m ∧ m < e) := fun h => by have := HQ.out.2 h; cases this
              by_cases h : i < m
              · obtain rfl : m = e := by omega
                exact Rot.refl_right _ _ _
              · obtain rfl : i = m := by omega
                exact Rot.refl_left _ _ _
          case rest =>
            clear S1 HQ
            obtain ⟨d1, hd1, S1, HR⟩ := hcut
            have CU : Aside (Cut (ltOf cf) a i m mid e b d d1) := cut_ok hS hai him himid (by have := HE.out; have := HN.out; omega) heb hb HA.out HB.out HR.out hlo.out hhi.out
            clear HR hlo hhi HA HB
            go_upto_region 41 with fail
            go_cut [199] from 192 to 199 (fun s wx => ∃ q : Bool, s = .bool q ∧ Aside (q = true ↔ a < i ∧ i < mid) ∧ Aside (SWK enc k w0 blk off d1 wx))
            case first =>
              by_cases hA : a < i
              · have hAz : (a : Int) < (i : Int) := by omega
                by_cases hB : i < mid
                · have hBz : (i : Int) < (mid : Int) := by omega
                  go_wp2
                  go_meet
                  exact ⟨true, rfl, (⟨fun _ => ⟨hA, hB⟩, fun _ => rfl⟩ : _ ↔ _), S1⟩
                · have hBz : ¬ (i : Int) < (mid : Int) := by omega
                  go_wp2
                  go_meet
                  exact ⟨false, rfl, (⟨(fun h => by cases h), fun h => absurd h.2 hB⟩ : _ ↔ _), S1⟩
              · have hAz : ¬ (a : Int) < (i : Int) := by omega
                go_wp2
                go_meet
                exact ⟨false, rfl, (⟨(fun h => by cases h), fun h => absurd h.1 hA⟩ : _ ↔ _), S1⟩
            case rest =>
              clear S1
              obtain ⟨q, rfl, HQ, S1⟩ := hcut
              go_upto_if 199 with fail
              go_cut [] from 200 to 205 (fun wx => ∃ d2 : Array α, d2.size = d.size ∧ Aside (SWK enc k w0 blk off d2 wx) ∧ Aside (Merged (ltOf cf) a mid d1 d2))
              case first =>
                cases q with
                | true =>
                  have hAB := HQ.out.1 rfl
                  have hc := IH.out a i mid d1 _ (by omega) (by omega) S1.out hAB.1 hAB.2 (by omega) CU.out.s1 CU.out.s2
                  rw [hd1] at hc
                  clear hAB HQ
                  go_wp2_with fail
                  refine hc.mono ?_
                  rintro e' w1 ⟨rfl, d2, hx, S2⟩
                  have hz : d2.size = d.size := hx.1.1.1.trans hd1
                  have HX : Aside (Merged (ltOf cf) a mid d1 d2) := hx
                  have S3 : Aside (SWK enc k w0 blk off d2 w1) := S2
                  clear S1 S2 hc hx
                  go_wp2
                  go_meet
                  exact ⟨d2, hz, S3, HX⟩
                | false =>
                  go_wp2
                  go_meet
                  refine ⟨d1, hd1, S1, ?_⟩
                  show Merged (ltOf cf) a mid d1 d1
                  have hq : ¬ (a < i ∧ i < mid) := fun h => by have := HQ.out.2 h; cases this
                  refine ⟨Keep.refl _ _ _, ?_⟩
                  by_cases h : a < i
                  · obtain rfl : i = mid := by omega
                    exact CU.out.s1
                  · obtain rfl : a = i := by omega
                    exact CU.out.s2
              case rest =>
                clear S1 HQ
                obtain ⟨d2, hd2, S1, HM⟩ := hcut
                have keep2 : ∀ t, mid ≤ t → d2[t]! = d1[t]! := fun t ht => HM.out.1.1.2.1 t (by omega)
                have s3 : Aside (SortedIn (ltOf cf) mid e d2) := fun x y h1 h2 h3 => by rw [keep2 x h1, keep2 y (by omega)]; exact CU.out.s3 x y h1 h2 h3
                have s4 : Aside (SortedIn (ltOf cf) e b d2) := fun x y h1 h2 h3 => by rw [keep2 x (by omega), keep2 y (by omega)]; exact CU.out.s4 x y h1 h2 h3
                clear keep2
                by_cases hA : mid < e
                · have hAz : (mid : Int) < (e : Int) := by omega
                  by_cases hB : e < b
                  · have hBz : (e : Int) < (b : Int) := by omega
                    have hc := IH.out mid e b d2 _ (by omega) (by omega) S1.out hA hB (by omega) s3.out s4.out
                    rw [hd2] at hc
                    go_wp2_with fail
                    refine hc.mono ?_
                    rintro e' w1 ⟨rfl, d3, hx, S2⟩
                    have HX : Aside (Merged (ltOf cf) mid b d2 d3) := hx
                    have S3 : Aside (SWK enc k w0 blk off d3 w1) := S2
                    clear S1 S2 hc hx
                    go_wp2
                    go_end0
                    exact ⟨rfl, d3, cut_join CU.out (by omega) (by omega) hb HM.out HX.out, S3.out⟩
                  · have hBz : ¬ (e : Int) < (b : Int) := by omega
                    go_wp2
                    go_end0
                    obtain rfl : e = b := by omega
                    exact ⟨rfl, d2, cut_join CU.out (by omega) (by omega) hb HM.out ⟨Keep.refl _ _ _, s3.out⟩, S1.out⟩
                · have hAz : ¬ (mid : Int) < (e : Int) := by omega
                  go_wp2
                  go_end0
                  obtain rfl : mid = e := by omega
                  exact ⟨rfl, d2, cut_join CU.out (by omega) (by omega) hb HM.out ⟨Keep.refl _ _ _, s4.out⟩, S1.out⟩

end Go.Proofs.Ytcmgfmpmapnckaa
