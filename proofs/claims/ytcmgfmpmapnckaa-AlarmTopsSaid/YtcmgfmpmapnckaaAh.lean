/- The law AlarmTops, walked. -/
import Derived.Test.YtcmgfmpmapnckaaAi
import Derived.Deep.MidRow
namespace Go.Proofs.Ytcmgfmpmapnckaa
open Go.Shelf Go.RowKit Go.Lib Go.Sort
set_option linter.unusedVariables false
set_option linter.unusedSimpArgs false

theorem eqItems_self (xs : Array Value) (F : Nat → Int) (hx : ∀ j, j < 16 → xs[j]? = some (.int .i64 (F j))) (w : World) : ∀ is : List Nat, (∀ j ∈ is, j < 16) → (Op.eqItems 9999 3 1 xs xs is).run Try.prog w = .ok true w
  | [], _ => by simp [Op.eqItems]
  | j :: is, h => by
    have hj := h j (by simp)
    have hp : (part 3 xs (j * 1)).run Try.prog w = .ok (.int .i64 (F j)) w := by
      rw [Nat.mul_one]
      have := hx j hj
      simp [part, go_sem, this]
    have he : (Op.equalIn 9999 3 (.int .i64 (F j)) (.int .i64 (F j))).run Try.prog w = .ok true w := by
      rw [show (9999 : Nat) = 9998 + 1 from rfl, run_equalIn_int w 9998 3 .i64 .i64 _ _ Try.underlying3]; simp
    simp only [Op.eqItems, Sem.run_bind, hp, he, Result.andThen_ok]
    simpa using eqItems_self xs F hx w is (fun i hi => h i (by simp [hi]))
theorem hist_eq (D : Nat → Ln) (n : Nat) (w : World) : (binOp .neq 45 (.agg (histL D n).toArray) (.agg (histL D n).toArray)).run Try.prog w = .ok (.bool false) w := by
  have h1 : (Op.equalIn 10000 45 (.agg (histL D n).toArray) (.agg (histL D n).toArray)).run Try.prog w = .ok true w := by
    cases hi : Try.prog.info? 3 with
    | none =>
      obtain ⟨i0, hi0, _⟩ := info_parts info3
      rw [hi] at hi0; cases hi0
    | some i0 =>
      rw [show (10000 : Nat) = 9999 + 1 from rfl, run_equalIn_array w 9999 _ _ Try.underlying45 hi]
      have c3 : Try.prog.cellsOf 3 = 1 := by kernel_rfl
      rw [c3]
      exact eqItems_self _ (fun j => ((cntTo D n (j : Int) : Nat) : Int)) (fun j hj => by rw [List.getElem?_toArray]; exact histL_get D n hj) w _ (fun j hj => List.mem_range.1 hj)
  rw [run_neq_struct, h1]; rfl

set_option maxHeartbeats 16000000 in
set_option maxRecDepth 100000 in
theorem law_tops {A : Option Addr} {n cap : Nat} {D : Nat → Ln} {b most : Int} (w : World) (h : ArgL w A n D) :
    Calls Try.prog 6 #[.slice A n cap, .int .i64 b, .int .i64 most] w fun e w' => e = .returned (.bool true) ∧ Below w.heap.size w w' := by
  have haw := fun W => awake37 W
  by_cases hn : 60 < n
  · have hnz : (60 : Int) < (n : Int) := by omega
    clear h
    go_enter Try.func6, Try.ntmps6
    go_wp2_with (go_at_call 19; refine (haw _).mono ?_; rintro e w1 ⟨rfl, hb1⟩)
    go_ret
    exact ⟨rfl, hb1⟩
  · have hnz : ¬ (60 : Int) < (n : Int) := by omega
    have H0 := Lib.hid h
    clear h
    go_enter Try.func6, Try.ntmps6
    go_upto_block 0 with (go_at_call 19; refine (haw _).mono ?_; rintro e w1 ⟨rfl, hb1⟩)
    have hz : (#[.int .i64 0, .int .i64 0, .int .i64 0, .int .i64 0, .int .i64 0, .int .i64 0, .int .i64 0, .int .i64 0, .int .i64 0, .int .i64 0, .int .i64 0, .int .i64 0, .int .i64 0, .int .i64 0, .int .i64 0, .int .i64 0] : Array Value) = (histL D 0).toArray := rfl
    rw [hz]
    clear hz
    have hc : (w1.alloc (.cells (histL D 0).toArray 45)).heap[w1.heap.size]? = some (.cells (histL D 0).toArray 45 (0, 0)) := blk_new _ _
    have h1 : ArgL w1 A n D := H0.out.below hb1
    have HC := Lib.hid hc
    have HA := Lib.hid h1
    have HF : Aside (Below w1.heap.size w1 (w1.alloc (.cells (histL D 0).toArray 45))) := (Below.refl _ _).alloc (Nat.le_refl _) _
    have HW1 := Lib.hid hb1
    clear hc h1 hb1 H0
    generalize w1.alloc (.cells (histL D 0).toArray 45) = w2 at HC HF ⊢
    go_cut [] from 28 to 56 (fun wx => Aside (wx.heap[w1.heap.size]? = some (.cells (histL D n).toArray 45 (0, 0))) ∧ Aside (Below w1.heap.size w1 wx))
    case first =>
      go_wp2_with fail
      go_loopg [8] n (fun kx s8 wr => ∃ i : Nat, s8 = .int .i64 i ∧ i ≤ n ∧ n - i ≤ kx ∧ Aside (wr.heap[w1.heap.size]? = some (.cells (histL D i).toArray 45 (0, 0))) ∧ Aside (Below w1.heap.size w1 wr))
      case atStart => exact ⟨0, rfl, Nat.zero_le _, Nat.le_refl _, HC, HF⟩
      case round =>
        clear HC HF
        obtain ⟨i, rfl, hi, hkx, HC, HF⟩ := hrel
        by_cases hlt : i < n
        · have hltz : (i : Int) < (n : Int) := by omega
          obtain ⟨a, rfl, hab, hLA, hok⟩ := HA.out i hlt
          obtain ⟨c0, c1, c2, c3, c4, c5, c6⟩ := hLA.keep hab HF.out
          have HRe : Aside (∀ r : Nat, (D i).reason = (r : Int) → r < 16 → (histL D i).set r (.int .i64 ((cntTo D i (r : Int) : Int) + 1)) = histL D (i + 1)) := fun r h1 h2 => histL_in D i h1 h2
          have HRo : Aside ((D i).reason < 0 ∨ 15 < (D i).reason → histL D (i + 1) = histL D i) := histL_out D i
          have hs1 := HF.out.size
          clear c0 c2 c3 c4 c5 c6 hLA hok
          generalize (D i).reason = y at c1 HRe HRo
          by_cases hr0 : 0 ≤ y
          · by_cases hr1 : y < 16
            · obtain ⟨r, hr⟩ := Int.eq_ofNat_of_zero_le hr0
              have hr16 : r < 16 := by omega
              have hcnt : cntTo D i (r : Int) ≤ 60 := by have := cntTo_le D (r : Int) i; omega
              have hcell : wr.cell? ⟨w1.heap.size, r, none⟩ = some (.int .i64 (cntTo D i (r : Int))) := by
                rw [blk_cell HC.out r, List.getElem?_toArray, histL_get D i hr16]
              have hfrz : wr.frozen? ⟨w1.heap.size, r, none⟩ = false := blk_free HC.out r
              have er : y.toNat = r := by omega
              have HC2 : Aside ((wr.setCell ⟨w1.heap.size, r, none⟩ (.int .i64 ((cntTo D i (r : Int) : Int) + 1))).heap[w1.heap.size]? = some (.cells (histL D (i + 1)).toArray 45 (0, 0))) := by
                show (wr.setCell ⟨w1.heap.size, r, none⟩ (.int .i64 ((cntTo D i (r : Int) : Int) + 1))).heap[w1.heap.size]? = _
                rw [blk_set HC.out r, List.setIfInBounds_toArray, HRe.out r hr hr16]
              have HF2 : Aside (Below w1.heap.size w1 (wr.setCell ⟨w1.heap.size, r, none⟩ (.int .i64 ((cntTo D i (r : Int) : Int) + 1)))) := HF.out.setCell (p := ⟨w1.heap.size, r, none⟩) (Nat.le_refl _) _
              clear HC HF HRe HRo
              subst hr
              go_wp2
              go_roundg (n - (i + 1))
              case measure => omega
              case rel => exact ⟨i + 1, by go_num, by omega, Nat.le_refl _, HC2, HF2⟩
            · have HC2 : Aside (wr.heap[w1.heap.size]? = some (.cells (histL D (i + 1)).toArray 45 (0, 0))) := by rw [HRo.out (by omega)]; exact HC
              clear HC HRe HRo
              go_wp2
              go_roundg (n - (i + 1))
              case measure => omega
              case rel => exact ⟨i + 1, by go_num, by omega, Nat.le_refl _, HC2, HF⟩
          · have HC2 : Aside (wr.heap[w1.heap.size]? = some (.cells (histL D (i + 1)).toArray 45 (0, 0))) := by rw [HRo.out (by omega)]; exact HC
            clear HC HRe HRo
            go_wp2
            go_roundg (n - (i + 1))
            case measure => omega
            case rel => exact ⟨i + 1, by go_num, by omega, Nat.le_refl _, HC2, HF⟩
        · have hltz : ¬ (i : Int) < (n : Int) := by omega
          obtain rfl : i = n := by omega
          go_wp2
          go_meet
          exact ⟨HC, HF⟩
    case rest =>
      obtain ⟨HC, HF⟩ := hcut
      have hA1 : ArgL wc A n D := HA.out.below HF.out
      have HA2 : Aside (ArgL wc A n D) := hA1
      have HWC : Aside (RowKit.Below w.heap.size w wc) := HW1.out.trans (HF.out.mono HW1.out.size)
      clear hA1 HA HF haw HW1
      by_cases hb : b < 0 ∨ 3 < b
      · have hT := topG_out (A := A) (n := n) (cap := cap) (b := b) (most := most) wc hb
        have hH := histogram_any (cap := cap) wc.drew (HA2.out.below ⟨rfl, rfl, rfl, Nat.le_refl _, fun _ _ => rfl⟩) (by omega)
        have hE := fun W => hist_eq D n W
        have HLT := blk_lt HC.out
        have hc : wc.drew.rangeAt w1.heap.size 0 (histL D n) := fun j v hj => by
          rw [Nat.zero_add]
          exact (blk_cell (w := wc.drew) HC.out j).trans (by rw [List.getElem?_toArray]; exact hj)
        have hk : ∀ W : World, Below wc.drew.heap.size wc.drew W → W.rangeAt w1.heap.size 0 (histL D n) := fun W hW j v hj => (hW.cell (p := ⟨w1.heap.size, 0 + j, none⟩) HLT).trans (hc j v hj)
        have hi45 : (Try.prog.info? 45).map (·.size) = some (histL D n).length := by rw [show (histL D n).length = 16 by simp [histL]]; kernel_rfl
        have hu45 := Try.underlying45
        have HB := Lib.hid hb
        clear hb
        generalize histL D n = arr at hc hH hE hk hi45
        generalize w1.heap.size = hbk at *
        go_wp2_with (go_at_call 20; refine hT.mono ?_; rintro e w3 ⟨rfl, rfl⟩)
        go_region_held3 (fun w' => w'.rangeAt hbk 0 arr) (first | exact hk _ hb4 | go_keep) ((go_at_call 21; refine hH.mono ?_; rintro e w4 ⟨rfl, hb4⟩))
        have HW4 : Aside (RowKit.Below w.heap.size w w4) := HWC.out.trans (RowKit.Below.mono (B := wc.drew.heap.size) ⟨hb4.os, hb4.tape, hb4.output, hb4.size, hb4.block⟩ HWC.out.size)
        clear hb4
        rcases HB.out with hb | hb
        · go_wp2
          go_ret
          exact ⟨rfl, HW4.out⟩
        · go_wp2
          go_ret
          exact ⟨rfl, HW4.out⟩
      · have hb0 : 0 ≤ b := by omega
        have hb3 : b ≤ 3 := by omega
        have hT := topG_any (cap := cap) (most := most) wc HA2.out (by omega) hb0 hb3
        have hH : ∀ W, Below wc.heap.size wc W → Calls Try.prog 21 #[.slice A n cap] W.drew fun e w' => e = .returned (.agg (histL D n).toArray) ∧ Below W.drew.heap.size W.drew w' := fun W hW =>
          histogram_any (cap := cap) W.drew (HA2.out.below ⟨hW.os, hW.tape, hW.output, hW.size, hW.block⟩) (by omega)
        have hE := fun W => hist_eq D n W
        have HLT := blk_lt HC.out
        have hk : ∀ W W' : World, Below wc.heap.size wc W → Below W.drew.heap.size W.drew W' → W.drew.rangeAt w1.heap.size 0 (histL D n) ∧ W'.rangeAt w1.heap.size 0 (histL D n) := fun W W' hW hW' => by
          have hc : W.drew.rangeAt w1.heap.size 0 (histL D n) := fun j v hj => by
            rw [Nat.zero_add]
            exact (hW.cell (p := ⟨w1.heap.size, j, none⟩) HLT).trans ((blk_cell (w := wc) HC.out j).trans (by rw [List.getElem?_toArray]; exact hj))
          exact ⟨hc, fun j v hj => (hW'.cell (p := ⟨w1.heap.size, 0 + j, none⟩) (Nat.lt_of_lt_of_le HLT hW.size)).trans (hc j v hj)⟩
        have hi45 : (Try.prog.info? 45).map (·.size) = some (histL D n).length := by rw [show (histL D n).length = 16 by simp [histL]]; kernel_rfl
        have hu45 := Try.underlying45
        have HGP := Lib.hid (grpsTo_ok b D n)
        clear hb
        generalize histL D n = arr at hH hE hk hi45
        generalize w1.heap.size = hbk at *
        go_wp2_with (go_at_call 20; refine hT.mono ?_; rintro e w3 ⟨T, AT, m, rfl, hS, hm, hbT, hcT⟩)
        have hc := (hk w3 w3.drew hbT (Below.refl _ _)).1
        go_region_held3 (fun w' => w'.rangeAt hbk 0 arr) (first | exact (hk w3 _ hbT hb4).2 | go_keep) ((go_at_call 21; refine (hH w3 hbT).mono ?_; rintro e w4 ⟨rfl, hb4⟩))
        have HA4 : Aside (ArgL w4 A n D) := HA2.out.below (hbT.trans ⟨hb4.os, hb4.tape, hb4.output, hb4.size, fun q hq => hb4.block q (by have := hbT.size; show q < w3.heap.size; omega)⟩)
        have HT4 : Aside (∀ k, k < m → ∃ g, AT = some ⟨g, 0, none⟩ ∧ g < w4.heap.size ∧ ∀ c, c < 6 → w4.cell? ⟨g, k * 6 + c, none⟩ = (encG T[k]!)[c]?) := fun k hk => by
          obtain ⟨g, h1, h2, h3, h4⟩ := hcT k hk
          exact ⟨g, h1, Nat.lt_of_lt_of_le h3 hb4.size, fun c hc => (hb4.cell (p := ⟨g, k * 6 + c, none⟩) h3).trans (h4 c hc)⟩
        have HW4 : Aside (RowKit.Below w.heap.size w w4) := HWC.out.trans (RowKit.Below.mono (B := wc.heap.size) (hbT.trans ⟨hb4.os, hb4.tape, hb4.output, hb4.size, fun q hq => hb4.block q (by have := hbT.size; show q < w3.heap.size; omega)⟩) HWC.out.size)
        have HS := Lib.hid hS
        have HM := Lib.hid hm
        clear hm hS hcT hb4 hbT hc hk hH hE hi45 hu45 hT HLT HC HF HA2
        go_upto_block 2 with fail
        go_cut [10, 11, 12, 13, 14] from 74 to 114 (fun s10 s11 s12 s13 s14 wx => ∃ (Fs : List Nat) (fv mv : Value), fv = s10 ∧ mv = s11 ∧ Aside (FmAt w4.heap.size b D n fv mv Fs wx) ∧ Aside (Below w4.heap.size w4 wx))
        case first =>
          go_wp2_with fail
          go_loopg [10, 11, 12, 13, 14] n (fun kx s10 s11 s12 s13 s14 wr => ∃ (i : Nat) (Fs : List Nat) (fv mv : Value), fv = s10 ∧ mv = s11 ∧ s12 = .int .i64 i ∧ i ≤ n ∧ n - i ≤ kx ∧ Aside (FmAt w4.heap.size b D i fv mv Fs wr) ∧ Aside (Below w4.heap.size w4 wr))
          case atStart => exact ⟨0, [], _, _, rfl, rfl, rfl, Nat.zero_le _, Nat.le_refl _, FmAt.nil _ _ _ _, Below.refl _ _⟩
          case round =>
            obtain ⟨i, Fs, fv, mv, rfl, rfl, rfl, hi, hkx, HFM, HF⟩ := hrel
            have hGi : Fs.length ≤ i := by rw [HFM.out.len]; exact (grpsTo_ok b D i).2.1
            by_cases hlt : i < n
            · have hltz : (i : Int) < (n : Int) := by omega
              have hBW : w4.heap.size ≤ wr.heap.size := HF.out.size
              obtain ⟨fA, fcap, rfl⟩ := own_lenA HFM.out.fr
              obtain ⟨mA, mcap, rfl⟩ := own_lenA HFM.out.mr
              have HLi : Aside (∃ a, A = some a ∧ LineAt wr (a.add (i * 7)) (D i)) := by
                obtain ⟨a, h1, h2, h3, _⟩ := HA4.out i hlt
                exact ⟨a, h1, h3.keep h2 HF.out⟩
              have HGI := Lib.hid (grpsTo_ok b D i)
              generalize wr = wo at *
              go_upto_block 4 with fail
              go_cut [13, 14] from 80 to 99 (fun s13 s14 wx => ∃ s : Int, s13 = .int .i64 s ∧ AtTo (grpsTo b D i) (keyBy b (D i).key) Fs.length s ∧ Aside (Below wo.heap.size wo wx))
              case first =>
                go_wp2_with fail
                go_loopg [13, 14] Fs.length (fun kx s13 s14 wz => ∃ (k : Nat) (s : Int), s13 = .int .i64 s ∧ s14 = .int .i64 k ∧ k ≤ Fs.length ∧ Fs.length - k ≤ kx ∧ Aside (AtTo (grpsTo b D i) (keyBy b (D i).key) k s) ∧ Aside (Below wo.heap.size wo wz))
                case atStart => exact ⟨0, -1, rfl, rfl, Nat.zero_le _, Nat.le_refl _, AtTo.start _ _, Below.refl _ _⟩
                case round =>
                  obtain ⟨k, s, rfl, rfl, hk, hkx2, HS2, HF2⟩ := hrel
                  by_cases hkl : k < Fs.length
                  · have hklz : (k : Int) < (Fs.length : Int) := by omega
                    obtain ⟨a, rfl, hla⟩ := HLi.out
                    obtain ⟨g, cap', hv, hgB, hgl, hgc⟩ := HFM.out.fcell hkl
                    injection hv with hv1 _ hv3
                    subst hv1 hv3
                    obtain ⟨a2, ha2, hb2, hl2, _⟩ := HA4.out Fs[k]! (Nat.lt_trans (HFM.out.first hkl) hlt)
                    injection ha2 with ha2
                    subst ha2
                    have hkey := HFM.out.key hkl
                    have hflt := HFM.out.first hkl
                    have hbi := (HA4.out i hlt)
                    obtain ⟨a3, ha3, hb3', _, _⟩ := HA4.out i hlt
                    injection ha3 with ha3
                    subst ha3
                    have hbz : RowKit.Below w4.heap.size w4 wr := HF.out.trans (HF2.out.mono hBW)
                    have hsame := same_any b (D Fs[k]!) (D i) wr.drew hb0 hb3
                    rw [hkey] at hsame
                    have hL1 := hl2.keep hb2 hbz
                    have hL2 := hla.keep (Nat.lt_of_lt_of_le hb3' hBW) HF2.out
                    have hc0 : wr.cell? ⟨g, k, none⟩ = some (.int .i64 (Fs[k]! : Int)) := (HF2.out.cell (p := ⟨g, k, none⟩) hgl).trans hgc
                    have hglz : g < wr.heap.size := Nat.lt_of_lt_of_le hgl HF2.out.size
                    have hl2z : (a.add (Fs[k]! * 7)).block < wr.heap.size := Nat.lt_of_lt_of_le hb2 hbz.size
                    have hl3z : (a.add (i * 7)).block < wr.heap.size := Nat.lt_of_lt_of_le hb3' hbz.size
                    clear hla hgc hl2 hbi hb3' hbz hkey hb2
                    have HKY : Aside ((D Fs[k]!).key = (D Fs[k]!).key) := rfl
                    generalize Fs[k]! = f at *
                    generalize D f = x at hsame hL1 HKY
                    generalize D i = y at *
                    have hS0 : wr.drew.cell? ⟨g, k, none⟩ = some (.int .i64 (f : Int)) ∧ wr.drew.cell? (a.add (f * 7)) = some (.int .i64 x.time) ∧ wr.drew.cell? ⟨(a.add (f * 7)).block, (a.add (f * 7)).off + 1, none⟩ = some (.int .i64 x.reason) ∧ wr.drew.cell? ⟨(a.add (f * 7)).block, (a.add (f * 7)).off + 2, none⟩ = some (.int .u32 x.key.src) ∧ wr.drew.cell? ⟨(a.add (f * 7)).block, (a.add (f * 7)).off + 3, none⟩ = some (.int .u32 x.key.dst) ∧ wr.drew.cell? ⟨(a.add (f * 7)).block, (a.add (f * 7)).off + 4, none⟩ = some (.int .i64 x.key.proto) ∧ wr.drew.cell? ⟨(a.add (f * 7)).block, (a.add (f * 7)).off + 5, none⟩ = some (.int .i64 x.key.sport) ∧ wr.drew.cell? ⟨(a.add (f * 7)).block, (a.add (f * 7)).off + 6, none⟩ = some (.int .i64 x.key.dport) ∧ wr.drew.cell? (a.add (i * 7)) = some (.int .i64 y.time) ∧ wr.drew.cell? ⟨(a.add (i * 7)).block, (a.add (i * 7)).off + 1, none⟩ = some (.int .i64 y.reason) ∧ wr.drew.cell? ⟨(a.add (i * 7)).block, (a.add (i * 7)).off + 2, none⟩ = some (.int .u32 y.key.src) ∧ wr.drew.cell? ⟨(a.add (i * 7)).block, (a.add (i * 7)).off + 3, none⟩ = some (.int .u32 y.key.dst) ∧ wr.drew.cell? ⟨(a.add (i * 7)).block, (a.add (i * 7)).off + 4, none⟩ = some (.int .i64 y.key.proto) ∧ wr.drew.cell? ⟨(a.add (i * 7)).block, (a.add (i * 7)).off + 5, none⟩ = some (.int .i64 y.key.sport) ∧ wr.drew.cell? ⟨(a.add (i * 7)).block, (a.add (i * 7)).off + 6, none⟩ = some (.int .i64 y.key.dport) := ⟨hc0, hL1.1, hL1.2.1, hL1.2.2.1, hL1.2.2.2.1, hL1.2.2.2.2.1, hL1.2.2.2.2.2.1, hL1.2.2.2.2.2.2, hL2⟩
                    have hSk : ∀ W, RowKit.Below wr.drew.heap.size wr.drew W → W.cell? ⟨g, k, none⟩ = some (.int .i64 (f : Int)) ∧ W.cell? (a.add (f * 7)) = some (.int .i64 x.time) ∧ W.cell? ⟨(a.add (f * 7)).block, (a.add (f * 7)).off + 1, none⟩ = some (.int .i64 x.reason) ∧ W.cell? ⟨(a.add (f * 7)).block, (a.add (f * 7)).off + 2, none⟩ = some (.int .u32 x.key.src) ∧ W.cell? ⟨(a.add (f * 7)).block, (a.add (f * 7)).off + 3, none⟩ = some (.int .u32 x.key.dst) ∧ W.cell? ⟨(a.add (f * 7)).block, (a.add (f * 7)).off + 4, none⟩ = some (.int .i64 x.key.proto) ∧ W.cell? ⟨(a.add (f * 7)).block, (a.add (f * 7)).off + 5, none⟩ = some (.int .i64 x.key.sport) ∧ W.cell? ⟨(a.add (f * 7)).block, (a.add (f * 7)).off + 6, none⟩ = some (.int .i64 x.key.dport) ∧ W.cell? (a.add (i * 7)) = some (.int .i64 y.time) ∧ W.cell? ⟨(a.add (i * 7)).block, (a.add (i * 7)).off + 1, none⟩ = some (.int .i64 y.reason) ∧ W.cell? ⟨(a.add (i * 7)).block, (a.add (i * 7)).off + 2, none⟩ = some (.int .u32 y.key.src) ∧ W.cell? ⟨(a.add (i * 7)).block, (a.add (i * 7)).off + 3, none⟩ = some (.int .u32 y.key.dst) ∧ W.cell? ⟨(a.add (i * 7)).block, (a.add (i * 7)).off + 4, none⟩ = some (.int .i64 y.key.proto) ∧ W.cell? ⟨(a.add (i * 7)).block, (a.add (i * 7)).off + 5, none⟩ = some (.int .i64 y.key.sport) ∧ W.cell? ⟨(a.add (i * 7)).block, (a.add (i * 7)).off + 6, none⟩ = some (.int .i64 y.key.dport) := fun W hW => ⟨(hW.cell (p := ⟨g, k, none⟩) hglz).trans hc0, (by
                      have h1 := LineAt.keep (w := wr.drew) hL1 hl2z hW
                      have h2 := LineAt.keep (w := wr.drew) hL2 hl3z hW
                      exact ⟨h1.1, h1.2.1, h1.2.2.1, h1.2.2.2.1, h1.2.2.2.2.1, h1.2.2.2.2.2.1, h1.2.2.2.2.2.2, h2⟩)⟩
                    clear hL1 hL2
                    unfold valL at hsame
                    obtain ⟨hit, hhit⟩ : ∃ hit : Bool, hit = decide (((grpsTo b D i)[k]!).key = keyBy b y.key) := ⟨_, rfl⟩
                    rw [← hhit] at hsame
                    have HHIT := Lib.hid hhit
                    have HSY : Aside (AtTo (grpsTo b D i) (keyBy b y.key) k s) := HS2
                    clear hhit HS2 HLi
                    have ek : ((k : Int)).toNat = k := by omega
                    have ef : ((f : Int)).toNat = f := by omega
                    have ei : ((i : Int)).toNat = i := by omega
                    have hfz : (f : Int) < (n : Int) := by omega
                    go_wp2_with fail
                    go_region_held3 (fun w' => w'.cell? ⟨g, k, none⟩ = some (.int .i64 (f : Int)) ∧ w'.cell? (a.add (f * 7)) = some (.int .i64 x.time) ∧ w'.cell? ⟨(a.add (f * 7)).block, (a.add (f * 7)).off + 1, none⟩ = some (.int .i64 x.reason) ∧ w'.cell? ⟨(a.add (f * 7)).block, (a.add (f * 7)).off + 2, none⟩ = some (.int .u32 x.key.src) ∧ w'.cell? ⟨(a.add (f * 7)).block, (a.add (f * 7)).off + 3, none⟩ = some (.int .u32 x.key.dst) ∧ w'.cell? ⟨(a.add (f * 7)).block, (a.add (f * 7)).off + 4, none⟩ = some (.int .i64 x.key.proto) ∧ w'.cell? ⟨(a.add (f * 7)).block, (a.add (f * 7)).off + 5, none⟩ = some (.int .i64 x.key.sport) ∧ w'.cell? ⟨(a.add (f * 7)).block, (a.add (f * 7)).off + 6, none⟩ = some (.int .i64 x.key.dport) ∧ w'.cell? (a.add (i * 7)) = some (.int .i64 y.time) ∧ w'.cell? ⟨(a.add (i * 7)).block, (a.add (i * 7)).off + 1, none⟩ = some (.int .i64 y.reason) ∧ w'.cell? ⟨(a.add (i * 7)).block, (a.add (i * 7)).off + 2, none⟩ = some (.int .u32 y.key.src) ∧ w'.cell? ⟨(a.add (i * 7)).block, (a.add (i * 7)).off + 3, none⟩ = some (.int .u32 y.key.dst) ∧ w'.cell? ⟨(a.add (i * 7)).block, (a.add (i * 7)).off + 4, none⟩ = some (.int .i64 y.key.proto) ∧ w'.cell? ⟨(a.add (i * 7)).block, (a.add (i * 7)).off + 5, none⟩ = some (.int .i64 y.key.sport) ∧ w'.cell? ⟨(a.add (i * 7)).block, (a.add (i * 7)).off + 6, none⟩ = some (.int .i64 y.key.dport))
                      (first | exact hS0 | exact hSk _ hb6 | go_keep) ((go_at_call 22; refine hsame.mono ?_; rintro r w6 ⟨rfl, hb6⟩))
                    have HF6 : Aside (RowKit.Below wo.heap.size wo w6) := HF2.out.drew.trans (hb6.mono HF2.out.size)
                    clear hS0 hSk hsame hb6 HF2
                    cases hit with
                    | true =>
                      have HS3 : Aside (AtTo (grpsTo b D i) (keyBy b y.key) (k + 1) (k : Int)) := AtTo.hit (of_decide_eq_true HHIT.out.symm)
                      clear HHIT HSY
                      go_wp2
                      go_roundg (Fs.length - (k + 1))
                      case measure => omega
                      case rel => exact ⟨k + 1, _, rfl, by go_num, by omega, Nat.le_refl _, HS3, HF6⟩
                    | false =>
                      have HS3 : Aside (AtTo (grpsTo b D i) (keyBy b y.key) (k + 1) s) := HSY.out.miss (of_decide_eq_false HHIT.out.symm)
                      clear HHIT HSY
                      go_wp2
                      go_roundg (Fs.length - (k + 1))
                      case measure => omega
                      case rel => exact ⟨k + 1, _, rfl, by go_num, by omega, Nat.le_refl _, HS3, HF6⟩
                  · have hklz : ¬ (k : Int) < (Fs.length : Int) := by omega
                    obtain rfl : k = Fs.length := by omega
                    go_wp2
                    go_meet
                    exact ⟨s, rfl, HS2.out, HF2⟩
              case rest =>
                obtain ⟨s, rfl, hat, HF2⟩ := hcut
                have HFx : Aside (RowKit.Below w4.heap.size w4 wc) := HF.out.trans (HF2.out.mono hBW)
                have HFMx : Aside (FmAt w4.heap.size b D i (.slice fA Fs.length fcap) (.slice mA Fs.length mcap) Fs wc) := HFM.out.below HF2.out
                have hsx : w4.heap.size ≤ wc.heap.size := HFx.out.size
                clear HF HFM HLi HF2
                rcases hat with ⟨rfl, hno⟩ | ⟨c, rfl, hc, hce⟩
                · have HNO := Lib.hid hno
                  obtain ⟨i0, hi0, hz0, hz1, hz2⟩ := info_parts info3
                  have hn1 : Fs.length + 1 ≤ maxLen := by unfold maxLen; omega
                  have hby : (Fs.length + 1) * 8 ≤ 140737488355328 := by omega
                  have HFR : Aside (wc.ownsRow w4.heap.size 3 1 (.slice fA Fs.length fcap) Fs.length (Fs.map fun (f : Nat) => Value.int .i64 (f : Int))) := HFMx.out.fr
                  have HMR : Aside (wc.ownsRow w4.heap.size 3 1 (.slice mA Fs.length mcap) Fs.length ((grpsTo b D i).map fun g => Value.int .i64 g.many)) := HFMx.out.mr
                  clear hno
                  go_upto_region 26 with (at_builtin; refine wpList_append_lies _ rfl (.tmp 102) (.tmp 104) 54 rfl w4.heap.size 3 i0 _ 1 8 Try.underlying54 hi0 hz0 hz1 hz2 rfl (by decide) _ _ _ rfl (HFR.out.alloc _) ⟨wc.heap.size, 0, none⟩ 1 1 [.int .i64 i] rfl rfl (World.news_of_block (cs := #[.int .i64 i]) (t := 3) (fr := (0, 0)) (heap_alloc_new _ _)) (by simp [Value.oneCell']) (by omega) hn1 hby (by simp; omega) _ rfl ?_; intro g1 cap1 wa howna hgrowa hata hlta; (have HOA := Lib.hid howna); (have HGA : Aside ((wc.alloc (.cells #[.int .i64 i] 3)).grownBy wa (Value.slice fA Fs.length fcap).ownBlock) := hgrowa); (have HTA : Aside ((Value.slice fA Fs.length fcap).ownBlock = some g1 ∨ g1 = (wc.alloc (.cells #[.int .i64 i] 3)).heap.size) := hata); clear howna hgrowa hata)
                  have hsa : w4.heap.size ≤ wa.heap.size := by have := HGA.out.size; simp at this; omega
                  have HMA : Aside (wa.ownsRow w4.heap.size 3 1 (.slice mA Fs.length mcap) Fs.length ((grpsTo b D i).map fun g => Value.int .i64 g.many)) :=
                    (World.ownsRow.alloc (h := HMR.out) _).kept HGA.out (by
                      rcases HFMx.out.ne with h | h
                      · rw [h]; cases (Value.slice mA Fs.length mcap).ownBlock <;> simp
                      · exact .inr (fun e => h e.symm))
                  have HBA : Aside (RowKit.Below w4.heap.size w4 wa) := (HFx.out.alloc hsx _).trans ⟨HGA.out.os, HGA.out.tape, HGA.out.output, HGA.out.size, fun q hq => HGA.out.block q (by simp; omega) (fun e => by have := (HFR.out.lt _ e.symm).1; omega)⟩
                  go_wp2_with (at_builtin; refine wpList_append_lies _ rfl (.tmp 106) (.tmp 107) 54 rfl w4.heap.size 3 i0 _ 1 8 Try.underlying54 hi0 hz0 hz1 hz2 rfl (by decide) _ _ _ rfl (HMA.out.alloc _) ⟨wa.heap.size, 0, none⟩ 1 1 [.int .i64 1] rfl rfl (World.news_of_block (cs := #[.int .i64 1]) (t := 3) (fr := (0, 0)) (heap_alloc_new _ _)) (by simp [Value.oneCell']) (by omega) hn1 hby (by simp; omega) _ rfl ?_; intro g2 cap2 wb hownb hgrowb hatb hltb; (have HFIN : Aside (FmAt w4.heap.size b D (i + 1) (.slice (some ⟨g1, 0, none⟩) (Fs.length + 1) cap1) (.slice (some ⟨g2, 0, none⟩) (Fs.length + 1) cap2) (Fs ++ [i]) wb) := HFMx.out.push HNO.out ((RowKit.Below.refl _ _).alloc (Nat.le_refl _) _) (by simp) HOA.out HGA.out HTA.out hlta ((RowKit.Below.refl _ _).alloc (Nat.le_refl _) _) (by simp) hownb hgrowb hatb); (have HBB : Aside (RowKit.Below w4.heap.size w4 wb) := (HBA.out.alloc hsa _).trans ⟨hgrowb.os, hgrowb.tape, hgrowb.output, hgrowb.size, fun q hq => hgrowb.block q (by simp; omega) (fun e => by have := (HMA.out.lt _ e.symm).1; omega)⟩); clear hownb hgrowb hatb)
                  go_roundg (n - (i + 1))
                  case measure => omega
                  case rel => exact ⟨i + 1, Fs ++ [i], _, _, rfl, rfl, by go_num, by omega, Nat.le_refl _, HFIN, HBB⟩
                · obtain ⟨g, cap', hv, hgB, hgl, hgc, hgf⟩ := HFMx.out.mcell hc
                  injection hv with hv1 _ hv3
                  subst hv1 hv3
                  have HBU : Aside (FmAt w4.heap.size b D (i + 1) (.slice fA Fs.length fcap) (.slice (some ⟨g, 0, none⟩) Fs.length mcap) Fs (wc.setCell ⟨g, c, none⟩ (.int .i64 (((grpsTo b D i)[c]!).many + 1)))) := HFMx.out.bump rfl hc hce
                  have HBB : Aside (RowKit.Below w4.heap.size w4 (wc.setCell ⟨g, c, none⟩ (.int .i64 (((grpsTo b D i)[c]!).many + 1)))) := HFx.out.setCell (p := ⟨g, c, none⟩) hgB _
                  have hmn : ((grpsTo b D i)[c]!).many ≤ (i : Int) ∧ 1 ≤ ((grpsTo b D i)[c]!).many := by
                    have hc2 : c < (grpsTo b D i).length := by rw [← HFMx.out.len]; exact hc
                    rw [getElem!_pos _ c hc2]
                    exact ⟨HGI.out.2.2 _ (List.getElem_mem hc2), HGI.out.1.pos _ (List.getElem_mem hc2)⟩
                  obtain ⟨hm1, hm0⟩ := hmn
                  generalize ((grpsTo b D i)[c]!).many = mn at *
                  have hcz : (c : Int) < (Fs.length : Int) := by omega
                  clear hce
                  go_wp2
                  go_roundg (n - (i + 1))
                  case measure => omega
                  case rel => exact ⟨i + 1, Fs, _, _, rfl, rfl, by go_num, by omega, Nat.le_refl _, HBU, HBB⟩
            · have hltz : ¬ (i : Int) < (n : Int) := by omega
              obtain rfl : i = n := by omega
              go_wp2
              go_meet
              exact ⟨Fs, _, _, rfl, rfl, HFM, HF⟩
        case rest =>
          obtain ⟨Fs, fv, mv, rfl, rfl, HFM, HF⟩ := hcut
          have hFn : Fs.length ≤ n := by rw [HFM.out.len]; exact HGP.out.2.1
          have hTF : T.length = Fs.length := by rw [HFM.out.len]; exact sorted_len HS.out
          have hm : (m : Int) = min (Fs.length : Int) (max most 0) := by rw [← hTF]; exact HM.out
          have hmF : m ≤ Fs.length := by omega
          have HTF := Lib.hid hTF
          have HPK : Aside (PkAt w4.heap.size (grpsTo b D n) T 0 fv mv Fs wc) := HFM.out.pick T
          have HKF : Aside (∀ k, k < Fs.length → keyBy b (D Fs[k]!).key = ((grpsTo b D n)[k]!).key ∧ Fs[k]! < n) := fun k hk => ⟨HFM.out.key hk, HFM.out.first hk⟩
          obtain ⟨fA, fcap, rfl⟩ := own_lenA HFM.out.fr
          obtain ⟨mA, mcap, rfl⟩ := own_lenA HFM.out.mr
          have HG1 : Aside (Grps (grpsTo b D n)) := HGP.out.1
          clear hTF HM HFM HGP
          generalize grpsTo b D n = G at *
          go_upto_region 30 with fail
          clear hm
          go_wp2_with fail
          go_loopg [15, 16, 17, 18, 19] m (fun kx s15 s16 s17 s18 s19 wr => ∃ (i : Nat), s15 = .int .i64 i ∧ i ≤ m ∧ m - i ≤ kx ∧ Aside (PkAt w4.heap.size G T i (.slice fA Fs.length fcap) (.slice mA Fs.length mcap) Fs wr) ∧ Aside (Below w4.heap.size w4 wr))
          case atStart => exact ⟨0, rfl, Nat.zero_le _, Nat.le_refl _, HPK, HF⟩
          case round =>
            clear HPK HF
            obtain ⟨i, rfl, hi, hkx, HPK, HF⟩ := hrel
            by_cases hlt : i < m
            · have hltz : (i : Int) < (m : Int) := by omega
              have hiT : i < T.length := by rw [HTF.out]; omega
              obtain ⟨g, cap', hv, hgB, hgl, hgc⟩ := HPK.out.mcell (k := 0) (by omega)
              injection hv with hv1 _ hv3
              subst hv1 hv3
              have hBW : w4.heap.size ≤ wr.heap.size := HF.out.size
              have HMC : Aside (∀ q j, j < Fs.length → (wr.drewN q).cell? ⟨g, j, none⟩ = some (.int .i64 (leftL G T i)[j]!)) := fun q j hj => (hgc j hj).1
              have HMF : Aside (∀ j, j < Fs.length → wr.frozen? ⟨g, j, none⟩ = false) := fun j hj => (hgc j hj).2
              clear hgc
              generalize wr = wo at *
              go_upto_block 8 with fail
              go_cut [16, 17] from 129 to 155 (fun s16 s17 wx => ∃ (s : Int) (q : Nat), s16 = .int .i64 s ∧ Best (leftL G T i) Fs.length s ∧ wx = wo.drewN q)
              case first =>
                go_wp2_with fail
                go_loopg [16, 17] Fs.length (fun kx s16 s17 wr => ∃ (k q : Nat) (s : Int), s16 = .int .i64 s ∧ s17 = .int .i64 k ∧ k ≤ Fs.length ∧ Fs.length - k ≤ kx ∧ Aside (Best (leftL G T i) k s) ∧ wr = wo.drewN q)
                case atStart => exact ⟨0, 0, -1, rfl, rfl, Nat.zero_le _, Nat.le_refl _, Best.start _, rfl⟩
                case round =>
                  obtain ⟨k, q, s, rfl, rfl, hk, hkx2, HBS, rfl⟩ := hrel
                  by_cases hkl : k < Fs.length
                  · have hklz : (k : Int) < (Fs.length : Int) := by omega
                    have hck := fun q' => HMC.out q' k hkl
                    have ek : ((k : Int)).toNat = k := by omega
                    have mixed : Try.prog.follows Departure.mixedOrders = true := by kernel_rfl
                    rcases HBS.out.cases with rfl | ⟨c, rfl, hck2⟩
                    · obtain ⟨y, hy⟩ : ∃ y, y = (leftL G T i)[k]! := ⟨_, rfl⟩
                      rw [← hy] at hck
                      have HY := Lib.hid hy
                      clear hy
                      by_cases hy0 : 0 < y
                      · have HB2 : Aside (Best (leftL G T i) (k + 1) (k : Int)) := HBS.out.first (by rw [← HY.out]; exact hy0)
                        have d1 : decide (y > 0) = true := decide_eq_true hy0
                        clear HBS
                        go_wp2_with fail
                        go_quiet (fail)
                        go_wp2
                        go_roundg (Fs.length - (k + 1))
                        case measure => omega
                        case rel => exact ⟨k + 1, _, _, rfl, by go_num, by omega, Nat.le_refl _, HB2, rfl⟩
                      · have HB2 : Aside (Best (leftL G T i) (k + 1) (-1)) := HBS.out.low (by rw [← HY.out]; omega)
                        have d1 : decide (y > 0) = false := decide_eq_false hy0
                        clear HBS
                        go_wp2_with fail
                        go_quiet (fail)
                        go_wp2
                        go_roundg (Fs.length - (k + 1))
                        case measure => omega
                        case rel => exact ⟨k + 1, _, _, rfl, by go_num, by omega, Nat.le_refl _, HB2, rfl⟩
                    · have hcz : (c : Int) < (Fs.length : Int) := by omega
                      have ec : ((c : Int)).toNat = c := by omega
                      have hcc := fun q' => HMC.out q' c (by omega)
                      obtain ⟨y, hy⟩ : ∃ y, y = (leftL G T i)[k]! := ⟨_, rfl⟩
                      obtain ⟨z, hz⟩ : ∃ z, z = (leftL G T i)[c]! := ⟨_, rfl⟩
                      rw [← hy] at hck
                      rw [← hz] at hcc
                      have HY := Lib.hid hy
                      have HZ := Lib.hid hz
                      clear hy hz
                      have dn : decide ((c : Int) < 0) = false := decide_eq_false (by omega)
                      by_cases hy0 : 0 < y
                      · have d1 : decide (y > 0) = true := decide_eq_true hy0
                        by_cases hyz : z < y
                        · have d2 : decide (y > z) = true := decide_eq_true hyz
                          have HB2 : Aside (Best (leftL G T i) (k + 1) (k : Int)) := HBS.out.more (by rw [← HY.out, ← HZ.out]; exact hyz)
                          clear HBS
                          go_wp2_with fail
                          go_quiet (fail)
                          go_wp2
                          go_roundg (Fs.length - (k + 1))
                          case measure => omega
                          case rel => exact ⟨k + 1, _, _, rfl, by go_num, by omega, Nat.le_refl _, HB2, rfl⟩
                        · have d2 : decide (y > z) = false := decide_eq_false hyz
                          have HB2 : Aside (Best (leftL G T i) (k + 1) (c : Int)) := HBS.out.less (by rw [← HY.out, ← HZ.out]; omega)
                          clear HBS
                          go_wp2_with fail
                          go_quiet (fail)
                          go_wp2
                          go_roundg (Fs.length - (k + 1))
                          case measure => omega
                          case rel => exact ⟨k + 1, _, _, rfl, by go_num, by omega, Nat.le_refl _, HB2, rfl⟩
                      · have HB2 : Aside (Best (leftL G T i) (k + 1) (c : Int)) := HBS.out.low (by rw [← HY.out]; omega)
                        have d1 : decide (y > 0) = false := decide_eq_false hy0
                        clear HBS
                        go_wp2_with fail
                        go_quiet (fail)
                        go_wp2
                        go_roundg (Fs.length - (k + 1))
                        case measure => omega
                        case rel => exact ⟨k + 1, _, _, rfl, by go_num, by omega, Nat.le_refl _, HB2, rfl⟩
                  · have hklz : ¬ (k : Int) < (Fs.length : Int) := by omega
                    obtain rfl : k = Fs.length := by omega
                    go_wp2
                    go_meet
                    exact ⟨s, q, rfl, HBS.out, rfl⟩
              case rest =>
                obtain ⟨s, q, rfl, hbs, rfl⟩ := hcut
                have hbs2 : Best (leftL G T i) G.length s := by rw [← HPK.out.len]; exact hbs
                obtain ⟨c, hcG, rfl, hTc, hLc⟩ := best_picked HG1.out HS.out hiT hbs2
                have hcF : c < Fs.length := by rw [HPK.out.len]; exact hcG
                have hcz : (c : Int) < (Fs.length : Int) := by omega
                have HPKx : Aside (PkAt w4.heap.size G T i (.slice fA Fs.length fcap) (.slice (some ⟨g, 0, none⟩) Fs.length mcap) Fs (wo.drewN q)) := ⟨HPK.out.len, HPK.out.fr, HPK.out.mr, HPK.out.ne⟩
                have HFx : Aside (RowKit.Below w4.heap.size w4 (wo.drewN q)) := ⟨HF.out.os, HF.out.tape, HF.out.output, HF.out.size, HF.out.block⟩
                have hBWx : w4.heap.size ≤ (wo.drewN q).heap.size := hBW
                have hgx : g < (wo.drewN q).heap.size := hgl
                clear HPK HF HMC HMF hgl hBW
                generalize wo.drewN q = wx at *
                clear wo
                obtain ⟨gf, capf, hv, hfB, hfl, hfc⟩ := HPKx.out.fcell hcF
                injection hv with hv1 _ hv3
                subst hv1 hv3
                obtain ⟨hkey, hflt⟩ := HKF.out c hcF
                rw [getElem!_pos G c hcG] at hkey
                obtain ⟨a, rfl, hab, hla, _⟩ := HA4.out _ hflt
                obtain ⟨c0, c1, c2, c3, c4, c5, c6⟩ := hla.keep hab HFx.out
                have hfz : ((Fs[c]! : Nat) : Int) < (n : Int) := by omega
                generalize Fs[c]! = f at *
                generalize D f = x at *
                have ef : ((f : Int)).toNat = f := by omega
                have ec : ((c : Int)).toNat = c := by omega
                clear c0 c1 hbs hbs2 hla
                have HKEY := Lib.hid hkey
                have HTC := Lib.hid hTc
                have HLC := Lib.hid hLc
                clear hkey hTc hLc
                go_upto_block 10 with fail
                have h18 : ((wx.alloc (.cells #[.int .u32 x.key.src, .int .u32 x.key.dst, .int .i64 x.key.proto, .int .i64 x.key.sport, .int .i64 x.key.dport] 48)).alloc (.cells #[.int .u32 0, .int .u32 0, .int .i64 0, .int .i64 0, .int .i64 0] 48)).heap[wx.heap.size]? = some (.cells #[.int .u32 x.key.src, .int .u32 x.key.dst, .int .i64 x.key.proto, .int .i64 x.key.sport, .int .i64 x.key.dport] 48 (0, 0)) := blk_alloc (blk_new _ _) _
                have h19 : ((wx.alloc (.cells #[.int .u32 x.key.src, .int .u32 x.key.dst, .int .i64 x.key.proto, .int .i64 x.key.sport, .int .i64 x.key.dport] 48)).alloc (.cells #[.int .u32 0, .int .u32 0, .int .i64 0, .int .i64 0, .int .i64 0] 48)).heap[wx.heap.size + 1]? = some (.cells #[.int .u32 0, .int .u32 0, .int .i64 0, .int .i64 0, .int .i64 0] 48 (0, 0)) := blk_new' _ _ _ (by simp)
                have hbk : RowKit.Below wx.heap.size wx ((wx.alloc (.cells #[.int .u32 x.key.src, .int .u32 x.key.dst, .int .i64 x.key.proto, .int .i64 x.key.sport, .int .i64 x.key.dport] 48)).alloc (.cells #[.int .u32 0, .int .u32 0, .int .i64 0, .int .i64 0, .int .i64 0] 48)) := ((RowKit.Below.refl _ _).alloc (Nat.le_refl _) _).alloc (by simp) _
                have H18 := Lib.hid h18
                have H19 := Lib.hid h19
                have HBK := Lib.hid hbk
                clear h18 h19 hbk c2 c3 c4 c5 c6
                generalize ((wx.alloc (.cells #[.int .u32 x.key.src, .int .u32 x.key.dst, .int .i64 x.key.proto, .int .i64 x.key.sport, .int .i64 x.key.dport] 48)).alloc (.cells #[.int .u32 0, .int .u32 0, .int .i64 0, .int .i64 0, .int .i64 0] 48)) = wk at H18 H19 HBK ⊢
                obtain ⟨hs, hhs⟩ : ∃ hs, hs = wx.heap.size := ⟨_, rfl⟩
                rw [← hhs] at H18 H19 HBK ⊢
                have HHS := Lib.hid hhs
                clear hhs
                go_cut [] from 165 to 178 (fun wy => Aside (wy.heap[hs + 1]? = some (.cells #[.int .u32 (keyBy b x.key).src, .int .u32 (keyBy b x.key).dst, .int .i64 (keyBy b x.key).proto, .int .i64 (keyBy b x.key).sport, .int .i64 (keyBy b x.key).dport] 48 (0, 0))) ∧ Aside (Below hs wx wy))
                case first =>
                  have a0 : wk.cell? ⟨hs, 0, none⟩ = some (.int .u32 x.key.src) := (blk_cell H18.out 0).trans rfl
                  have z0 : wk.cell? ⟨hs + 1, 0, none⟩ = some (.int .u32 0) := (blk_cell H19.out 0).trans rfl
                  have f0 : wk.frozen? ⟨hs + 1, 0, none⟩ = false := blk_free H19.out 0
                  have a1 : wk.cell? ⟨hs, 1, none⟩ = some (.int .u32 x.key.dst) := (blk_cell H18.out 1).trans rfl
                  have z1 : wk.cell? ⟨hs + 1, 1, none⟩ = some (.int .u32 0) := (blk_cell H19.out 1).trans rfl
                  have f1 : wk.frozen? ⟨hs + 1, 1, none⟩ = false := blk_free H19.out 1
                  have a2 : wk.cell? ⟨hs, 2, none⟩ = some (.int .i64 x.key.proto) := (blk_cell H18.out 2).trans rfl
                  have z2 : wk.cell? ⟨hs + 1, 2, none⟩ = some (.int .i64 0) := (blk_cell H19.out 2).trans rfl
                  have f2 : wk.frozen? ⟨hs + 1, 2, none⟩ = false := blk_free H19.out 2
                  have a3 : wk.cell? ⟨hs, 3, none⟩ = some (.int .i64 x.key.sport) := (blk_cell H18.out 3).trans rfl
                  have z3 : wk.cell? ⟨hs + 1, 3, none⟩ = some (.int .i64 0) := (blk_cell H19.out 3).trans rfl
                  have f3 : wk.frozen? ⟨hs + 1, 3, none⟩ = false := blk_free H19.out 3
                  have a4 : wk.cell? ⟨hs, 4, none⟩ = some (.int .i64 x.key.dport) := (blk_cell H18.out 4).trans rfl
                  have z4 : wk.cell? ⟨hs + 1, 4, none⟩ = some (.int .i64 0) := (blk_cell H19.out 4).trans rfl
                  have f4 : wk.frozen? ⟨hs + 1, 4, none⟩ = false := blk_free H19.out 4
                  have hb : b = 0 ∨ b = 1 ∨ b = 2 ∨ b = 3 := by omega
                  rcases hb with rfl | rfl | rfl | rfl
                  · go_wp2
                    go_meet
                    exact ⟨H19.out, HBK.out⟩
                  · go_wp2
                    go_meet
                    exact ⟨(blk_set H19.out 0 _).trans rfl, HBK.out.setCell (p := ⟨hs + 1, 0, none⟩) (Nat.le_succ _) _⟩
                  · go_wp2
                    go_meet
                    exact ⟨(blk_set H19.out 1 _).trans rfl, HBK.out.setCell (p := ⟨hs + 1, 1, none⟩) (Nat.le_succ _) _⟩
                  · go_wp2
                    go_meet
                    exact ⟨(blk_set (blk_set (blk_set (blk_set (blk_set H19.out 0 _) 1 _) 2 _) 3 _) 4 _).trans rfl, ((((HBK.out.setCell (p := ⟨hs + 1, 0, none⟩) (Nat.le_succ _) _).setCell (p := ⟨hs + 1, 1, none⟩) (Nat.le_succ _) _).setCell (p := ⟨hs + 1, 2, none⟩) (Nat.le_succ _) _).setCell (p := ⟨hs + 1, 3, none⟩) (Nat.le_succ _) _).setCell (p := ⟨hs + 1, 4, none⟩) (Nat.le_succ _) _⟩
                case rest =>
                  obtain ⟨HKB, HBY⟩ := hcut
                  obtain ⟨g2, rfl, hg2, hct⟩ := HT4.out i hlt
                  have hTe : T[i]! = G[c] := by rw [getElem!_pos T i hiT]; exact HTC.out
                  rw [hTe] at hct
                  have hKe := HKEY.out
                  rw [hKe] at HKB
                  have hhs := HHS.out
                  subst hhs
                  have HPKc : Aside (PkAt w4.heap.size G T i (.slice (some ⟨gf, 0, none⟩) Fs.length fcap) (.slice (some ⟨g, 0, none⟩) Fs.length mcap) Fs wc) := HPKx.out.below HBY.out
                  have HBc : Aside (RowKit.Below w4.heap.size w4 wc) := HFx.out.trans (HBY.out.mono hBWx)
                  have HFIN : Aside (∀ q', PkAt w4.heap.size G T (i + 1) (.slice (some ⟨gf, 0, none⟩) Fs.length fcap) (.slice (some ⟨g, 0, none⟩) Fs.length mcap) Fs ((wc.drewN q').setCell ⟨g, c, none⟩ (.int .i64 0))) := fun q' => PkAt.pick (W := wc.drewN q') ⟨HPKc.out.len, HPKc.out.fr, HPKc.out.mr, HPKc.out.ne⟩ HG1.out rfl hiT hcG HTC.out
                  have HBF : Aside (∀ q', RowKit.Below w4.heap.size w4 ((wc.drewN q').setCell ⟨g, c, none⟩ (.int .i64 0))) := fun q' => RowKit.Below.setCell (w := wc.drewN q') ⟨HBc.out.os, HBc.out.tape, HBc.out.output, HBc.out.size, HBc.out.block⟩ (p := ⟨g, c, none⟩) hgB _
                  obtain ⟨gm, capm, hv, _, _, hmc⟩ := HPKc.out.mcell hcF
                  injection hv with hv1 _ hv3
                  injection hv1 with hv1
                  injection hv1 with hv1
                  subst hv1
                  clear hv3
                  obtain ⟨hm1, hm2⟩ := hmc c hcF
                  rw [HLC.out] at hm1
                  have k0 : wc.cell? ⟨g2, i * 6, none⟩ = some (.int .u32 G[c].key.src) := (HBc.out.cell (p := ⟨g2, i * 6, none⟩) hg2).trans ((hct 0 (by omega)).trans rfl)
                  have k1 : wc.cell? ⟨g2, i * 6 + 1, none⟩ = some (.int .u32 G[c].key.dst) := (HBc.out.cell (p := ⟨g2, i * 6 + 1, none⟩) hg2).trans ((hct 1 (by omega)).trans rfl)
                  have k2 : wc.cell? ⟨g2, i * 6 + 2, none⟩ = some (.int .i64 G[c].key.proto) := (HBc.out.cell (p := ⟨g2, i * 6 + 2, none⟩) hg2).trans ((hct 2 (by omega)).trans rfl)
                  have k3 : wc.cell? ⟨g2, i * 6 + 3, none⟩ = some (.int .i64 G[c].key.sport) := (HBc.out.cell (p := ⟨g2, i * 6 + 3, none⟩) hg2).trans ((hct 3 (by omega)).trans rfl)
                  have k4 : wc.cell? ⟨g2, i * 6 + 4, none⟩ = some (.int .i64 G[c].key.dport) := (HBc.out.cell (p := ⟨g2, i * 6 + 4, none⟩) hg2).trans ((hct 4 (by omega)).trans rfl)
                  have k5 : wc.cell? ⟨g2, i * 6 + 5, none⟩ = some (.int .i64 G[c].many) := (HBc.out.cell (p := ⟨g2, i * 6 + 5, none⟩) hg2).trans ((hct 5 (by omega)).trans rfl)
                  have l0 : wc.cell? ⟨wx.heap.size + 1, 0, none⟩ = some (.int .u32 G[c].key.src) := (blk_cell HKB.out 0).trans rfl
                  have l1 : wc.cell? ⟨wx.heap.size + 1, 1, none⟩ = some (.int .u32 G[c].key.dst) := (blk_cell HKB.out 1).trans rfl
                  have l2 : wc.cell? ⟨wx.heap.size + 1, 2, none⟩ = some (.int .i64 G[c].key.proto) := (blk_cell HKB.out 2).trans rfl
                  have l3 : wc.cell? ⟨wx.heap.size + 1, 3, none⟩ = some (.int .i64 G[c].key.sport) := (blk_cell HKB.out 3).trans rfl
                  have l4 : wc.cell? ⟨wx.heap.size + 1, 4, none⟩ = some (.int .i64 G[c].key.dport) := (blk_cell HKB.out 4).trans rfl
                  have hE := fun W => run_neq48 G[c].key G[c].key W
                  have hG8 := fun op A1 A2 W => guard48 op A1 A2 G[c].key G[c].key W
                  rw [decide_eq_true rfl] at hE
                  unfold valK at hE hG8
                  generalize G[c] = gr at *
                  generalize gr.key = ky at *
                  generalize gr.many = mn at *
                  clear hct hTe hKe HKB HBY HPKx HFx HPKc hmc HLC HKEY HTC H18 H19 HBK HTF
                  have ei : ((i : Int)).toNat = i := by omega
                  have ec : ((c : Int)).toNat = c := by omega
                  have mixed : Try.prog.follows Departure.mixedOrders = true := by kernel_rfl
                  go_wp2_with fail
                  go_quiet (fail)
                  go_wp2
                  go_roundg (m - (i + 1))
                  case measure => omega
                  case rel => exact ⟨i + 1, by go_num, by omega, Nat.le_refl _, HFIN.out _, HBF.out _⟩
            · have hltz : ¬ (i : Int) < (m : Int) := by omega
              go_wp2
              go_ret
              exact ⟨rfl, HW4.out.trans (HF.out.mono HW4.out.size)⟩

end Go.Proofs.Ytcmgfmpmapnckaa
