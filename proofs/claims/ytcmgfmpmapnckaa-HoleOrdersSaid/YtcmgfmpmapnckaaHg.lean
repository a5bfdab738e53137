/- The walk of the law HoleSums. -/
import Derived.Test.YtcmgfmpmapnckaaHf
namespace Go.Proofs.Ytcmgfmpmapnckaa
open Go.Shelf Go.RowKit Go.Lib Go.Sort
set_option linter.unusedVariables false
set_option linter.unusedSimpArgs false

/-- Pieces that came in. -/
def ArgP (w : World) (A : Option Addr) (n : Nat) (D : Nat → Pc) : Prop := ∀ i, i < n → ∃ a, A = some a ∧ a.block < w.heap.size ∧
  w.cell? (a.add (i * 3)) = some (.int .i64 (D i).frm) ∧ w.cell? ⟨(a.add (i * 3)).block, (a.add (i * 3)).off + 1, none⟩ = some (.string (D i).data) ∧ w.cell? ⟨(a.add (i * 3)).block, (a.add (i * 3)).off + 2, none⟩ = some (.bool (D i).more)
theorem add_block (a : Addr) (n : Nat) : (a.add n).block = a.block := by unfold Addr.add; split <;> rfl
theorem ArgP.keep {w w' : World} {A : Option Addr} {n : Nat} {D : Nat → Pc} (h : ArgP w A n D) (hb : Below w.heap.size w w') : ArgP w' A n D := fun i hi => by
  obtain ⟨a, h1, h2, h3, h4, h5⟩ := h i hi
  exact ⟨a, h1, Nat.lt_of_lt_of_le h2 hb.size, (hb.cell (by rw [add_block]; exact h2)).trans h3, (hb.cell (by show (a.add (i * 3)).block < _; rw [add_block]; exact h2)).trans h4, (hb.cell (by show (a.add (i * 3)).block < _; rw [add_block]; exact h2)).trans h5⟩

def fewN (D : Nat → Pc) (n : Nat) : Bool := (List.range n).all (fun i => decide ((D i).data.size ≤ 200)) && decide (n ≤ 40)
theorem fewN_iff {D : Nat → Pc} {n : Nat} : fewN D n = true ↔ (∀ i, i < n → (D i).data.size ≤ 200) ∧ n ≤ 40 := by
  unfold fewN; simp [List.all_eq_true]

set_option maxHeartbeats 1600000 in
theorem few_any {A : Option Addr} {n cap : Nat} {D : Nat → Pc} (w : World) (h : ArgP w A n D) (hn : n ≤ maxLen) :
    Calls Try.prog 36 #[.slice A n cap] w fun e w' => e = .returned (.bool (fewN D n)) ∧ w = w' := by
  unfold maxLen at hn
  have H := Lib.hid h
  clear h
  go_enter Try.func36, Try.ntmps36
  go_wp2
  go_loop [3] (fun s3 => ∃ i : Nat, s3 = .int .i64 i ∧ i ≤ n ∧ Aside (∀ j, j < i → (D j).data.size ≤ 200)) (fun s3 => n - (intOf s3).toNat)
  case atStart => exact ⟨0, rfl, Nat.zero_le _, fun j hj => absurd hj (Nat.not_lt_zero _)⟩
  case round =>
    obtain ⟨i, rfl, hi, hall⟩ := hrel
    by_cases hlt : i < n
    · have hltz : (i : Int) < (n : Int) := by omega
      obtain ⟨a, rfl, hab, c0, c1, c2⟩ := H.out i hlt
      by_cases hsz : (D i).data.size ≤ 200
      · have hok := Lib.hid hsz
        generalize D i = p at c0 c1 c2 hsz
        have hz : ((p.data.size : Int) ≤ 200) := by omega
        go_wp2
        go_round
        case rel => exact ⟨i + 1, by go_num, by omega, fun j hj => by
          by_cases hj' : j < i
          · exact hall.out j hj'
          · obtain rfl : j = i := by omega
            exact hok.out⟩
        case measure => simp [intOf]; omega
      · have hbad : fewN D n = false := by
          cases hf : fewN D n with
          | false => rfl
          | true => exact absurd ((fewN_iff.1 hf).1 i hlt) hsz
        have HBAD := Lib.hid hbad
        generalize D i = p at c0 c1 c2 hsz
        have hz : ¬ ((p.data.size : Int) ≤ 200) := by omega
        clear hbad
        go_wp2
        go_ret
        exact ⟨ret_bool HBAD.out.symm, rfl⟩
    · have hltz : ¬ (i : Int) < (n : Int) := by omega
      obtain rfl : i = n := by omega
      have HF : Aside (fewN D i = decide ((i : Int) ≤ 40)) := by
        show fewN D i = decide ((i : Int) ≤ 40)
        rw [Bool.eq_iff_iff, fewN_iff, decide_eq_true_iff]
        exact ⟨fun h => by omega, fun h => ⟨hall.out, by omega⟩⟩
      go_wp2
      go_ret
      exact ⟨ret_bool HF.out.symm, rfl⟩

theorem encH_len (h : Int × Int) : (encH h).length = 2 := rfl
theorem hsum_take_succ (l : List (Int × Int)) {k : Nat} (hk : k < l.length) : hsum (l.take (k + 1)) = hsum (l.take k) + ((l[k]!).2 - (l[k]!).1) := by
  rw [List.take_succ_eq_append_getElem hk, show l[k] = ((l[k]!).1, (l[k]!).2) by rw [getElem!_pos l k hk], hsum_snoc]
theorem hsum_take_le {l : List (Int × Int)} {t : Int} (h : HOk l t) : ∀ k j, k ≤ j → j ≤ l.length → hsum (l.take k) ≤ hsum (l.take j) := by
  intro k j hkj
  induction hkj with
  | refl => intro _; exact Int.le_refl _
  | step hkj ih =>
    rename_i j
    intro hj
    have := ih (by omega)
    rw [hsum_take_succ l (by omega)]
    have := (h j (by omega)).1
    omega
/-- The cells of a list of holes. -/
theorem hole_cells {B : Nat} {w : World} {g cap : Nat} {l : List (Int × Int)} (h : w.ownsRow B 89 2 (.slice (some ⟨g, 0, none⟩) l.length cap) l.length (l.flatMap encH)) {k : Nat} (hk : k < l.length) :
    w.cell? ⟨g, k * 2, none⟩ = some (.int .i64 (l[k]!).1) ∧ w.cell? ⟨g, k * 2 + 1, none⟩ = some (.int .i64 (l[k]!).2) := by
  have e : ∀ c, c < 2 → w.cell? ⟨g, k * 2 + c, none⟩ = (encH l[k]!)[c]? := fun c hc => by
    rw [World.ownsRow.cellAt (h := h) (k * 2 + c) (by omega), flat_get encH_len l k c hk hc]
  exact ⟨(e 0 (by omega)).trans rfl, (e 1 (by omega)).trans rfl⟩

theorem AddStep.size {d d' : Array Pc} {e e' : Int} {p : Pc} {r : Int} (hs : AddStep d e p r d' e') : d'.size ≤ d.size + 1 := by
  unfold AddStep at hs
  split at hs
  · obtain ⟨_, rfl, rfl⟩ := hs; omega
  split at hs
  · obtain ⟨_, rfl, rfl⟩ := hs; omega
  split at hs
  · obtain ⟨_, rfl, rfl⟩ := hs; omega
  split at hs
  · obtain ⟨_, rfl, rfl⟩ := hs; omega
  obtain ⟨_, _, hM⟩ := hs
  have := hM.1.1.1
  rw [Array.size_push] at this
  omega

set_option maxHeartbeats 8000000 in
set_option maxRecDepth 100000 in
theorem hsums_any {A : Option Addr} {n cap : Nat} {D : Nat → Pc} (w : World) (h : ArgP w A n D) (hn : n ≤ maxLen) :
    Calls Try.prog 9 #[.slice A n cap] w fun e w' => e = .returned (.bool true) ∧ Below w.heap.size w w' := by
  have hF := few_any (cap := cap) w h hn
  have hAw := fun W => awake19 W
  cases hf : fewN D n with
  | false =>
    rw [hf] at hF
    have HN := Lib.hid hn
    clear h hf hn
    go_enter Try.func9, Try.ntmps9
    go_wp2_with (first
      | (go_at_call 36; refine hF.mono ?_; rintro r w1 ⟨rfl, rfl⟩)
      | (go_at_call 32; refine (hAw _).mono ?_; rintro r w1 ⟨rfl, hb⟩))
    go_ret
    exact ⟨rfl, hb⟩
  | true =>
    rw [hf] at hF
    obtain ⟨hsm, hn40⟩ := fewN_iff.1 hf
    have H := Lib.hid h
    have HSM := Lib.hid hsm
    clear h hf hn hsm
    go_enter Try.func9, Try.ntmps9
    go_wp2_with (first
      | (go_at_call 36; refine hF.mono ?_; rintro r w1 ⟨rfl, rfl⟩)
      | (go_at_call 32; refine (hAw _).mono ?_; rintro r w1 ⟨rfl, hb1⟩; have hnew := new_any w1)
      | (go_at_call 33; refine hnew.mono ?_; rintro r w2 ⟨rfl, rfl⟩))
    have HB0 : Aside (BodyAt w1.heap.size (w1.alloc (.cells #[.slice none 0 0, .int .i64 (-1)] 148)) w1.heap.size (.slice none 0 0) #[] (-1)) := BodyAt.new w1
    have HW1 := Lib.hid (hb1.size)
    have HF1 : Aside (Below w.heap.size w (w1.alloc (.cells #[.slice none 0 0, .int .i64 (-1)] 148))) := hb1.alloc hb1.size _
    generalize hbb : w1.heap.size = bb at *
    clear hb1 hF hAw hnew hbb
    generalize (w1.alloc (.cells #[.slice none 0 0, .int .i64 (-1)] 148)) = w2 at HB0 HF1 ⊢
    go_loopg [4] n (fun kx s4 wr => ∃ (i : Nat) (v : Value) (d : Array Pc) (e : Int), s4 = .int .i64 i ∧ i ≤ n ∧ n - i ≤ kx ∧ d.size ≤ i ∧ Aside (BodyAt bb wr bb v d e) ∧ Aside (Good d e) ∧ Aside (Below w.heap.size w wr))
    case atStart => exact ⟨0, _, _, _, rfl, Nat.zero_le _, Nat.le_refl _, Nat.le_refl _, HB0, Good.nil, HF1⟩
    case round =>
      clear HB0 HF1
      obtain ⟨i, v, d, e, rfl, hi, hkx, hds, HB, HG, HF⟩ := hrel
      by_cases hlt : i < n
      · have hltz : (i : Int) < (n : Int) := by omega
        obtain ⟨a, rfl, hab, c0, c1, c2⟩ := H.out i hlt
        have hab1 : (a.add (i * 3)).block < w.heap.size := by rw [add_block]; exact hab
        have hab2 : (a.add (i * 3)).block < bb := by have := HW1.out; omega
        have k0 : wr.cell? (a.add (i * 3)) = some (.int .i64 (D i).frm) := (HF.out.cell hab1).trans c0
        have k1 : wr.cell? ⟨(a.add (i * 3)).block, (a.add (i * 3)).off + 1, none⟩ = some (.string (D i).data) := (HF.out.cell (p := ⟨(a.add (i * 3)).block, (a.add (i * 3)).off + 1, none⟩) hab1).trans c1
        have k2 : wr.cell? ⟨(a.add (i * 3)).block, (a.add (i * 3)).off + 2, none⟩ = some (.bool (D i).more) := (HF.out.cell (p := ⟨(a.add (i * 3)).block, (a.add (i * 3)).off + 2, none⟩) hab1).trans c2
        have hAdd := add_any (D i) wr.drew ⟨HB.out.base, HB.out.blk, HB.out.row, HB.out.ok, HB.out.lo, HB.out.hi, HB.out.few⟩ (by omega) (by have := HSM.out i hlt; unfold maxLen; omega)
        generalize D i = p at k0 k1 k2 hAdd
        clear c0 c1 c2
        go_wp2_with fail
        go_region_held3 (fun w' => w'.cell? (a.add (i * 3)) = some (.int .i64 p.frm) ∧ w'.cell? ⟨(a.add (i * 3)).block, (a.add (i * 3)).off + 1, none⟩ = some (.string p.data) ∧ w'.cell? ⟨(a.add (i * 3)).block, (a.add (i * 3)).off + 2, none⟩ = some (.bool p.more))
          (first | (exact ⟨(hb2.cell hab2).trans k0, (hb2.cell (p := ⟨(a.add (i * 3)).block, (a.add (i * 3)).off + 1, none⟩) hab2).trans k1, (hb2.cell (p := ⟨(a.add (i * 3)).block, (a.add (i * 3)).off + 2, none⟩) hab2).trans k2⟩) | go_keep)
          ((go_at_call 34; refine hAdd.mono ?_; rintro r w3 ⟨n3, v3, d3, e3, rfl, hst, hb2, hbd⟩))
        have HBD : Aside (BodyAt bb w3 bb v3 d3 e3) := hbd
        have hgood := good_step HG.out hst
        have HG3 : Aside (Good d3 e3) := hgood
        have hsz3 : d3.size ≤ i + 1 := by have := hst.size; omega
        have HF3 : Aside (Below w.heap.size w w3) := HF.out.drew.trans (hb2.mono HW1.out)
        obtain ⟨hHO, hHS⟩ := holes_good hgood
        clear hAdd k0 k1 k2 hst hb2 HB HG HF hgood
        have hHol := holes_any w3 hbd
        have he3 := hbd.hi
        have htop : 0 ≤ topOf e3 ∧ topOf e3 ≤ 65535 := by have := hbd.lo; unfold topOf; split <;> omega
        clear hbd
        have hLl : (holesOf d3 e3).length ≤ 1001 := by
          have h1 := (holesTo_bd d3 HBD.out.ok d3.size (Nat.le_refl _)).1
          unfold holesOf
          split
          · rw [List.length_append, List.length_singleton]; omega
          · omega
        generalize holesOf d3 e3 = L at hHO hHS hHol hLl
        have HHO := Lib.hid hHO
        have HHS := Lib.hid hHS
        clear hHO hHS
        go_wp2_with fail
        refine hHol.mono ?_
        rintro r w4 ⟨lv, rfl, hown, hb4⟩
        have HBD4 : Aside (BodyAt bb w4 bb v3 d3 e3) := HBD.out.below hb4
        have HF4 : Aside (Below w.heap.size w w4) := HF3.out.trans (hb4.mono HF3.out.size)
        have hlt4 := hown.lt
        obtain ⟨A4, cap4, rfl⟩ := own_len_form hown
        have hBy := bytes_any w4 HBD4.out
        generalize hS0 : sumTo d3 d3.size = S0 at *
        clear hS0 hHol hb4 HBD HF3
        have HOWN : Aside (w4.ownsRow w3.heap.size 89 2 (.slice A4 L.length cap4) L.length (L.flatMap encH)) := hown
        clear hown
        go_wp2_with fail
        refine hBy.mono ?_
        rintro r w5 ⟨rfl, hb5⟩
        have HBD5 : Aside (BodyAt bb w5 bb v3 d3 e3) := HBD4.out.below hb5
        have HF5 : Aside (Below w.heap.size w w5) := HF4.out.trans (hb5.mono HF4.out.size)
        have HCL : Aside (∀ k, k < L.length → ∃ g, A4 = some ⟨g, 0, none⟩ ∧ ∀ q, (w5.drewN q).cell? ⟨g, k * 2, none⟩ = some (.int .i64 (L[k]!).1) ∧ (w5.drewN q).cell? ⟨g, k * 2 + 1, none⟩ = some (.int .i64 (L[k]!).2)) := fun k hk => by
          obtain ⟨g, cap', hv, _, hg⟩ := HOWN.out.form (by omega)
          injection hv with hv
          subst hv
          obtain ⟨q0, q1⟩ := hole_cells HOWN.out hk
          exact ⟨g, rfl, fun q => ⟨(hb5.cell (p := ⟨g, k * 2, none⟩) hg).trans q0, (hb5.cell (p := ⟨g, k * 2 + 1, none⟩) hg).trans q1⟩⟩
        clear hBy hb5 HBD4 HF4 HOWN hlt4
        have hLn : hsum L + (S0 : Int) ≤ 65535 := by have := HHS.out; omega
        go_wp2
        go_loopg [6, 7] L.length (fun kx s6 s7 wz => ∃ (k q : Nat), s7 = .int .i64 k ∧ s6 = .int .i64 ((S0 : Int) + hsum (L.take k)) ∧ k ≤ L.length ∧ L.length - k ≤ kx ∧ wz = w5.drewN q)
        case atStart => exact ⟨0, 0, rfl, by rw [show hsum (L.take 0) = 0 from rfl]; go_num, Nat.zero_le _, Nat.le_refl _, rfl⟩
        case round =>
          obtain ⟨k, q, rfl, rfl, hk, hkx2, rfl⟩ := hrel
          by_cases hkl : k < L.length
          · have hklz : (k : Int) < (L.length : Int) := by omega
            obtain ⟨g, rfl, hcs⟩ := HCL.out k hkl
            obtain ⟨o1, o2, o3, o4⟩ := HHO.out k hkl
            have t1 := hsum_take_le HHO.out 0 k (Nat.zero_le _) hk
            have t2 := hsum_take_le HHO.out k L.length hk (Nat.le_refl _)
            rw [List.take_length] at t2
            rw [show hsum (L.take 0) = 0 from rfl] at t1
            have HT : Aside (hsum (L.take (k + 1)) = hsum (L.take k) + ((L[k]!).2 - (L[k]!).1)) := hsum_take_succ L hkl
            have hcs0 := fun q' => (hcs q').1
            have hcs1 := fun q' => (hcs q').2
            have O4 := Lib.hid o4
            generalize hC : hsum (L.take k) = C at *
            generalize hx1 : (L[k]!).1 = x1 at *
            generalize hx2 : (L[k]!).2 = x2 at *
            clear hcs o4
            have HX1 := Lib.hid hx1
            have HX2 := Lib.hid hx2
            clear hx1 hx2 hC
            have r1 : IntKind.i64.wrap ((S0 : Int) + C + x2) = (S0 : Int) + C + x2 := IntWalk.i64_in _ (by omega)
            have r2 : IntKind.i64.wrap ((S0 : Int) + C + x2 - x1) = (S0 : Int) + C + x2 - x1 := IntWalk.i64_in _ (by omega)
            have ea : ((k : Int)).toNat = k := by omega
            have pa : (0 : Int) ≤ (k : Int) := by omega
            have mixed : Try.prog.follows Departure.mixedOrders = true := by kernel_rfl
            go_wp2_with fail
            go_quiet (fail)
            have r3 : (S0 : Int) + C + x2 - x1 = (S0 : Int) + (C + (x2 - x1)) := by omega
            clear r1 r2
            have hge : decide (x1 ≥ x2) = false := decide_eq_false (by omega)
            have hge2 : decide (x2 ≤ x1) = false := decide_eq_false (by omega)
            by_cases hk0 : 0 < k
            · have hk0z : (0 : Int) < (k : Int) := by omega
              have hgt : decide ((k : Int) > 0) = true := decide_eq_true (by omega)
              have hgt2 : decide ((0 : Int) < (k : Int)) = true := decide_eq_true (by omega)
              have hgt3 : decide (0 < k) = true := decide_eq_true hk0
              obtain ⟨j, hj⟩ : ∃ j, j + 1 = k := ⟨k - 1, by omega⟩
              have r4 : IntKind.i64.wrap ((k : Int) - 1) = (k : Int) - 1 := IntWalk.i64_in _ (by omega)
              have eb : ((k : Int) - 1).toNat = j := by omega
              have pb : (0 : Int) ≤ (k : Int) - 1 := by omega
              have pb2 : (1 : Int) ≤ (k : Int) := by omega
              have pb3 : 1 ≤ k := by omega
              have bj : (k : Int) - 1 < (L.length : Int) := by omega
              obtain ⟨g', hg', hcj⟩ := HCL.out j (by omega)
              have hgg : g' = g := by injection hg' with hg'; injection hg' with hg'; exact hg'.symm
              subst hgg
              have hcj1 := fun q' => (hcj q').2
              have hy := O4.out hk0
              rw [show k - 1 = j by omega] at hy
              generalize (L[j]!).2 = y2 at hcj1 hy
              have hgy : decide (y2 ≥ x1) = false := decide_eq_false (by omega)
              have hgy2 : decide (x1 ≤ y2) = false := decide_eq_false (by omega)
              have HJ := Lib.hid hj
              clear hcj hg' hj
              go_wp2_with fail
              go_quiet (fail)
              go_wp2
              go_roundg (L.length - (k + 1))
              case measure => omega
              case rel => exact ⟨k + 1, _, by go_num, by rw [HT.out]; go_num, by omega, Nat.le_refl _, rfl⟩
            · obtain rfl : k = 0 := by omega
              have hgt : decide (((0 : Nat) : Int) > 0) = false := by decide
              go_wp2_with fail
              go_quiet (fail)
              go_wp2
              go_roundg (L.length - (0 + 1))
              case measure => omega
              case rel => exact ⟨0 + 1, _, by go_num, by rw [HT.out]; go_num, by omega, Nat.le_refl _, rfl⟩
          · have hklz : ¬ (k : Int) < (L.length : Int) := by omega
            obtain rfl : k = L.length := by omega
            rw [List.take_length]
            have hsumT : (S0 : Int) + hsum L = topOf e3 := by have := HHS.out; omega
            rw [hsumT]
            have HBD6 : BodyAt bb (w5.drewN q) bb v3 d3 e3 := ⟨HBD5.out.base, HBD5.out.blk, HBD5.out.row, HBD5.out.ok, HBD5.out.lo, HBD5.out.hi, HBD5.out.few⟩
            have HF6 : Below w.heap.size w (w5.drewN q) := ⟨HF5.out.os, HF5.out.tape, HF5.out.output, HF5.out.size, HF5.out.block⟩
            have HB6 : Aside _ := HBD6
            have HF7 : Aside _ := HF6
            clear hsumT HCL HHO HHS
            by_cases he : 0 ≤ e3
            · have hE := end_some _ HBD6.blk he
              have ht : topOf e3 = e3 := if_pos he
              rw [ht]
              clear HBD6 HF6 ht htop
              go_wp2_with fail
              refine hE.mono ?_
              rintro r w6 ⟨rfl, rfl⟩
              clear hE
              go_wp2
              go_roundg (n - (i + 1))
              case measure => omega
              case rel => exact ⟨i + 1, _, _, _, by go_num, by omega, Nat.le_refl _, hsz3, HB6, HG3, HF7⟩
            · have hE := end_none _ HBD6.blk (by omega)
              have ht : topOf e3 = 65535 := if_neg he
              rw [ht]
              clear HBD6 HF6 ht htop
              go_wp2_with fail
              refine hE.mono ?_
              rintro r w6 ⟨rfl, rfl⟩
              clear hE
              go_wp2
              go_roundg (n - (i + 1))
              case measure => omega
              case rel => exact ⟨i + 1, _, _, _, by go_num, by omega, Nat.le_refl _, hsz3, HB6, HG3, HF7⟩
      · have hltz : ¬ (i : Int) < (n : Int) := by omega
        go_wp2
        go_ret
        exact ⟨rfl, HF.out⟩

end Go.Proofs.Ytcmgfmpmapnckaa
