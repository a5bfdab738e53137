/- The walk of the law HoleOrders. -/
import Derived.Test.YtcmgfmpmapnckaaHh
import Derived.Deep.CutBlock
namespace Go.Proofs.Ytcmgfmpmapnckaa
open Go.Shelf Go.RowKit Go.Lib Go.Sort
set_option linter.unusedVariables false
set_option linter.unusedSimpArgs false

/-- Bytes of a slice that came in. -/
def ArgB (w : World) (A : Option Addr) (n : Nat) (F : Nat → Nat) : Prop := ∀ i, i < n → ∃ a, A = some a ∧ a.block < w.heap.size ∧ w.cell? (a.add i) = some (.int .u8 (F i)) ∧ F i < 256
theorem ArgB.keep {w w' : World} {A : Option Addr} {n : Nat} {F : Nat → Nat} (h : ArgB w A n F) (hb : Below w.heap.size w w') : ArgB w' A n F := fun i hi => by
  obtain ⟨a, h1, h2, h3, h4⟩ := h i hi
  exact ⟨a, h1, Nat.lt_of_lt_of_le h2 hb.size, (hb.cell (by rw [add_block]; exact h2)).trans h3, h4⟩

theorem info4 : (Try.prog.info? 4).map (fun i => (i.zero, i.size, i.bytes)) = some (some (.bool false), 1, 1) := by kernel_rfl
theorem own_full {w : World} {B g : Nat} {T : TypeId} {n : Nat} {xs : List Value} (h : w.ownsRow B T 1 (.slice (some ⟨g, 0, none⟩) n n) n xs) : w.heap[g]? = some (.cells xs.toArray T (0, 0)) := by
  rcases h.2 with ⟨h', _⟩ | ⟨g', cap, cur, h', _, hg, _, _, hs, ht⟩
  · cases h'
  · injection h' with h1 _ h3
    injection h1 with h1
    injection h1 with h1
    subst h1; subst h3
    rw [List.take_of_length_le (by rw [Array.length_toList, hs]; exact Nat.le_refl _)] at ht
    rw [hg, ← ht]
/-- Which pieces came. -/
def CameAt (w : World) (gc : Nat) (c : List Bool) : Prop := w.heap[gc]? = some (.cells (c.map Value.bool).toArray 4 (0, 0))
theorem L_cells {w : World} {B g m cap : Nat} {M : List Pc} (h : w.ownsRow B 77 3 (.slice (some ⟨g, 0, none⟩) m cap) M.length (M.flatMap encP)) (hm : M.length = m) {k : Nat} (hk : k < m) :
    w.cell? ⟨g, k * 3, none⟩ = some (.int .i64 (M[k]!).frm) ∧ w.cell? ⟨g, k * 3 + 1, none⟩ = some (.string (M[k]!).data) ∧ w.cell? ⟨g, k * 3 + 2, none⟩ = some (.bool (M[k]!).more) := by
  subst hm
  have e : ∀ c, c < 3 → w.cell? ⟨g, k * 3 + c, none⟩ = (encP M[k]!)[c]? := fun c hc => by
    rw [World.ownsRow.cellAt (h := h) (k * 3 + c) (by omega), flat_get encP_len M k c hk hc]
  exact ⟨(e 0 (by omega)).trans rfl, (e 1 (by omega)).trans rfl, (e 2 (by omega)).trans rfl⟩
theorem CameAt.cell {w : World} {gc : Nat} {c : List Bool} (h : CameAt w gc c) {k : Nat} (hk : k < c.length) : w.cell? ⟨gc, k, none⟩ = some (.bool c[k]!) := by
  rw [blk_cell h k, List.getElem?_toArray, List.getElem?_map, List.getElem?_eq_getElem hk, getElem!_pos c k hk]; rfl
theorem CameAt.set {w : World} {gc : Nat} {c : List Bool} (h : CameAt w gc c) (k : Nat) : CameAt (w.setCell ⟨gc, k, none⟩ (.bool true)) gc (c.set k true) := by
  unfold CameAt
  rw [blk_set h k, List.map_set]
  simp
theorem BodyAt.setCame {B b : Nat} {v : Value} {d : Array Pc} {e : Int} {w : World} {gc : Nat} {c : List Bool} (h : BodyAt B w b v d e) (hc : CameAt w gc c) (k : Nat) (u : Value) : BodyAt B (w.setCell ⟨gc, k, none⟩ u) b v d e :=
  ⟨h.base, blk_set_ne h.blk _ (fun hx => by
    have h1 := h.blk
    unfold CameAt at hc
    have hx : b = gc := hx
    rw [hx, hc] at h1
    injection h1 with h1
    injection h1 with _ ht
    exact absurd ht (by decide)), ownsRow_setCell_other (a := ⟨gc, k, none⟩) h.row (own_ne h.row (show w.heap[gc]? = some (.cells (c.map Value.bool).toArray 4 (0, 0)) from hc) (by decide)) _, h.ok, h.lo, h.hi, h.few⟩
theorem CameAt.foot {B b : Nat} {v : Value} {d : Array Pc} {e : Int} {w w' : World} {gc : Nat} {c : List Bool} (hc : CameAt w gc c) (h : BodyAt B w b v d e) (hf : Foot (bodyS b v) w w') : CameAt w' gc c :=
  hf.keep hc (fun hs => by
    rcases hs with hs | hs
    · have h1 := h.blk
      unfold CameAt at hc
      rw [← hs, hc] at h1
      injection h1 with h1
      injection h1 with _ ht
      exact absurd ht (by decide)
    · exact own_ne h.row (show w.heap[gc]? = some (.cells (c.map Value.bool).toArray 4 (0, 0)) from hc) (by decide) hs)
theorem Came.size {s : ByteArray} {M : List Pc} {c : List Bool} {d : Array Pc} {e : Int} (h : Came s M c d e) : d.size ≤ M.length := by
  have h1 := h.perm.length_eq
  have h2 := (sel_sub M c).length_le
  rw [Array.length_toList] at h1
  omega
theorem all_take_succ (c : List Bool) {j : Nat} (hj : j < c.length) : (c.take (j + 1)).all id = ((c.take j).all id && c[j]!) := by
  rw [List.take_succ_eq_append_getElem hj, List.all_append, getElem!_pos c j hj]
  simp
theorem own_snoc {w : World} {B : Nat} {T : TypeId} {k : Nat} {v : Value} {L : List Pc} (p : Pc) (h : w.ownsRow B T k v (L.length + 1) (L.flatMap encP ++ encP p)) : w.ownsRow B T k v (L ++ [p]).length ((L ++ [p]).flatMap encP) := by
  rw [List.length_append, List.flatMap_append, List.flatMap_singleton]
  exact h
theorem info77 : (Try.prog.info? 77).map (fun i => (i.zero, i.size, i.bytes)) = some (some (.agg #[.int .i64 0, .string ⟨#[]⟩, .bool false]), 3, 32) := by kernel_rfl

set_option maxHeartbeats 16000000 in
set_option maxRecDepth 100000 in
theorem horders_any {A1 A2 : Option Addr} {n1 cap1 n2 cap2 : Nat} {F1 F2 : Nat → Nat} (s : ByteArray) (w : World) (h1 : ArgB w A1 n1 F1) (h2 : ArgB w A2 n2 F2) (hn1 : n1 ≤ maxLen) (hn2 : n2 ≤ maxLen) :
    Calls Try.prog 8 #[.string s, .slice A1 n1 cap1, .slice A2 n2 cap2] w fun e w' => e = .returned (.bool true) ∧ Below w.heap.size w w' := by
  have hAw := fun W => awake19 W
  unfold maxLen at hn1 hn2
  by_cases hg : s.size ≤ 300 ∧ n1 ≤ 20 ∧ n2 ≤ 60
  · obtain ⟨hs, hn1, hn2⟩ := hg
    have hsz : (s.size : Int) ≤ 300 := by omega
    have hn1z : (n1 : Int) ≤ 20 := by omega
    have hn2z : (n2 : Int) ≤ 60 := by omega
    have H1 := Lib.hid h1
    have H2 := Lib.hid h2
    obtain ⟨i0, hi0, hz0, hz1, hz2⟩ := info_parts info77
    have HI : Aside (Try.prog.info? 77 = some i0 ∧ i0.zero = some (.agg #[.int .i64 0, .string ⟨#[]⟩, .bool false]) ∧ i0.size = 3 ∧ i0.bytes = 32) := ⟨hi0, hz0, hz1, hz2⟩
    clear h1 h2 hi0 hz0 hz1 hz2
    go_enter Try.func8, Try.ntmps8
    go_upto_block 0 with (go_at_call 32; refine (hAw _).mono ?_; rintro r w1 ⟨rfl, hb⟩)
    have HB1 := Lib.hid hb
    clear hb hAw
    go_cut [7, 8, 9, 10] from 37 to 77 (fun s7 s8 s9 s10 wx => ∃ (lv : Value) (L : List Pc) (a : Nat), lv = s7 ∧ s8 = .int .i64 a ∧ a ≤ 300 ∧ L.length ≤ 20 ∧ Aside (Pre s L a) ∧ Aside (wx.ownsRow w.heap.size 77 3 lv L.length (L.flatMap encP)) ∧ Aside (Below w.heap.size w wx))
    case first =>
      go_wp2_with fail
      go_loopg [7, 8, 9, 10] n1 (fun kx s7 s8 s9 s10 wr => ∃ (i a : Nat) (lv : Value) (L : List Pc), lv = s7 ∧ s8 = .int .i64 a ∧ s9 = .int .i64 i ∧ a ≤ 300 ∧ L.length ≤ i ∧ i ≤ n1 ∧ n1 - i ≤ kx ∧ Aside (Pre s L a) ∧ Aside (wr.ownsRow w.heap.size 77 3 lv L.length (L.flatMap encP)) ∧ Aside (Below w.heap.size w wr))
      case atStart => exact ⟨0, 0, _, [], rfl, rfl, rfl, Nat.zero_le _, Nat.le_refl _, Nat.zero_le _, Nat.le_refl _, Pre.nil s, World.ownsRow_nil _ _ _ _, HB1.out⟩
      case round =>
        obtain ⟨i, a, lv, L, rfl, rfl, rfl, ha, hLi, hi, hkx, HP, HO, HB⟩ := hrel
        by_cases hlt : i < n1 ∧ a + 8 < s.size
        · obtain ⟨hlt1, hlt2⟩ := hlt
          have hltz1 : (i : Int) < (n1 : Int) := by omega
          have hltz2 : (a : Int) + 8 < (s.size : Int) := by omega
          obtain ⟨a1, rfl, hab, hc, hF⟩ := H1.out i hlt1
          have hcr := (HB.out.cell (p := a1.add i) (by rw [add_block]; exact hab)).trans hc
          clear hc
          obtain ⟨f, hf⟩ : ∃ f, f = F1 i := ⟨_, rfl⟩
          rw [← hf] at hcr hF
          clear hf
          obtain ⟨N, hN⟩ : ∃ N : Nat, N = 8 * (1 + f % 4) := ⟨_, rfl⟩
          have eN : 8 * (1 + (f : Int) % 4) = (N : Int) := by omega
          have hN8 : N % 8 = 0 := by omega
          have hN0 : 8 ≤ N := by omega
          have hN1 : N ≤ 32 := by omega
          have HN8 := Lib.hid hN8
          have hf0 : (0 : Int) ≤ (f : Int) := by omega
          have hf1 : (f : Int) < 256 := by omega
          clear hN hN8
          by_cases hge : a + N < s.size
          · have hgez : (a : Int) + (N : Int) < (s.size : Int) := by omega
            have HP2 : Aside (Pre s (L ++ [⟨(a : Int), s.extract a (a + N), true⟩]) (a + N)) := HP.out.snoc HN8.out (by omega) hge hs
            have et1 : ((a : Int)).toNat = a := by omega
            have et2 : ((a : Int) + (N : Int)).toNat = a + N := by omega
            obtain ⟨hi0, hz0, hz1, hz2⟩ := HI.out
            have hs1 : w.heap.size ≤ wr.heap.size := HB.out.size
            have hn : L.length + 1 ≤ maxLen := by unfold maxLen; omega
            have hby : (L.length + 1) * 32 ≤ 140737488355328 := by omega
            go_wp2_with (at_builtin; refine wpList_append_lies _ rfl (.tmp 64) (.tmp 73) 75 rfl w.heap.size 77 i0 _ 3 32 Try.underlying75 hi0 hz0 hz1 hz2 rfl (by decide) _ _ _ rfl (HO.out.alloc _) ⟨wr.heap.size, 0, none⟩ 1 1 [.int .i64 a, .string (s.extract a (a + N)), .bool true] rfl rfl (World.news_of_block (cs := #[.int .i64 a, .string (s.extract a (a + N)), .bool true]) (t := 77) (fr := (0, 0)) (heap_alloc_new _ _)) (by simp [Value.oneCell']) (by omega) hn hby (by simp; omega) _ rfl ?_; intro g2 cap3 w3 hown1 hgrow hat hlt3; (have hb1 : Aside (Below w.heap.size w w3) := (HB.out.alloc hs1 _).trans ⟨hgrow.os, hgrow.tape, hgrow.output, hgrow.size, fun k hk => hgrow.block k (by simp; omega) (fun e => by have := (HO.out.lt _ e.symm).1; omega)⟩); (have hown2 : Aside (w3.ownsRow w.heap.size 77 3 (.slice (some ⟨g2, 0, none⟩) (L.length + 1) cap3) (L ++ [(⟨(a : Int), s.extract a (a + N), true⟩ : Pc)]).length ((L ++ [(⟨(a : Int), s.extract a (a + N), true⟩ : Pc)]).flatMap encP)) := own_snoc (⟨(a : Int), s.extract a (a + N), true⟩ : Pc) hown1); clear hgrow hat hown1 hlt3 hn hby)
            go_roundg (n1 - (i + 1))
            case measure => omega
            case rel => exact ⟨i + 1, a + N, _, L ++ [⟨(a : Int), s.extract a (a + N), true⟩], rfl, by go_num, by go_num, by omega, by simp; omega, by omega, Nat.le_refl _, HP2, hown2, hb1⟩
          · have hgez : ¬ (a : Int) + (N : Int) < (s.size : Int) := by omega
            go_wp2
            go_meet
            exact ⟨_, L, a, rfl, rfl, ha, by omega, HP, HO, HB⟩
        · by_cases hlt1 : i < n1
          · have hltz1 : (i : Int) < (n1 : Int) := by omega
            have hltz2 : ¬ (a : Int) + 8 < (s.size : Int) := by omega
            go_wp2
            go_meet
            exact ⟨_, L, a, rfl, rfl, ha, by omega, HP, HO, HB⟩
          · have hltz1 : ¬ (i : Int) < (n1 : Int) := by omega
            go_wp2
            go_meet
            exact ⟨_, L, a, rfl, rfl, ha, by omega, HP, HO, HB⟩
    case rest =>
      obtain ⟨lv, L, a, rfl, rfl, ha, hL, HP, HO, HB⟩ := hcut
      have has : a ≤ s.size := by rcases HP.out.lt with h | h <;> omega
      have hasz : (a : Int) ≤ (s.size : Int) := by omega
      have HCC : Aside (Cuts s (L ++ [(⟨(a : Int), s.extract a s.size, false⟩ : Pc)])) := HP.out.done hs
      have et1 : ((a : Int)).toNat = a := by omega
      obtain ⟨hi0, hz0, hz1, hz2⟩ := HI.out
      have hs1 : w.heap.size ≤ wc.heap.size := HB.out.size
      have hn : L.length + 1 ≤ maxLen := by unfold maxLen; omega
      have hby : (L.length + 1) * 32 ≤ 140737488355328 := by omega
      obtain ⟨j0, hj0, hy0, hy1, hy2⟩ := info_parts info4
      have hnew := fun W => new_any W
      go_wp2_with (first
        | (at_builtin; refine wpList_append_lies _ rfl (.tmp 78) (.tmp 84) 75 rfl w.heap.size 77 i0 _ 3 32 Try.underlying75 hi0 hz0 hz1 hz2 rfl (by decide) _ _ _ rfl (HO.out.alloc _) ⟨wc.heap.size, 0, none⟩ 1 1 [.int .i64 a, .string (s.extract a s.size), .bool false] rfl rfl (World.news_of_block (cs := #[.int .i64 a, .string (s.extract a s.size), .bool false]) (t := 77) (fr := (0, 0)) (heap_alloc_new _ _)) (by simp [Value.oneCell']) (by omega) hn hby (by simp; omega) _ rfl ?_; intro g2 cap3 w3 hown1 hgrow hat hlt3; (have hb1 : Aside (Below w.heap.size w w3) := (HB.out.alloc hs1 _).trans ⟨hgrow.os, hgrow.tape, hgrow.output, hgrow.size, fun k hk => hgrow.block k (by simp; omega) (fun e => by have := (HO.out.lt _ e.symm).1; omega)⟩); (have hown2 : Aside (w3.ownsRow w.heap.size 77 3 (.slice (some ⟨g2, 0, none⟩) (L.length + 1) cap3) (L ++ [(⟨(a : Int), s.extract a s.size, false⟩ : Pc)]).length ((L ++ [(⟨(a : Int), s.extract a s.size, false⟩ : Pc)]).flatMap encP)) := own_snoc (⟨(a : Int), s.extract a s.size, false⟩ : Pc) hown1); (generalize hm : L.length + 1 = m at hown2 ⊢); (have hm1 : m ≤ 21 := by omega); (have hm0 : 1 ≤ m := by omega); (have HM := Lib.hid hm); clear hgrow hat hown1 hn hby hm)
        | (go_at_call 33; refine (hnew _).mono ?_; rintro r w4 ⟨rfl, rfl⟩)
        | (at_make; refine wpList_make_full _ rfl (.tmp 88) (.tmp 88) 80 rfl w.heap.size 4 j0 _ 1 Try.underlying80 hj0 hy0 hy1 .i64 .i64 _ _ m rfl rfl rfl rfl (by rw [hy2]; omega) (by unfold maxLen; omega) (by have := hb1.out.size; simp; omega) ?_; intro w5 hown5 hgrow5))
      have hcs5 : (w3.alloc (.cells #[.slice none 0 0, .int .i64 (-1)] 148)).heap.size = w3.heap.size + 1 := by simp
      rw [hcs5] at hown5
      have hcb0 : w5.heap[w3.heap.size + 1]? = some (.cells (madeCells (Value.cells (.bool false)) (m * 1)).toList.toArray 4 (0, 0)) := own_full hown5
      have hcb1 : CameAt w5 (w3.heap.size + 1) (List.replicate m false) := by
        unfold CameAt
        rw [hcb0, Nat.mul_one, show Value.cells (.bool false) = #[.bool false] from rfl, toList_madeCells_one, List.map_replicate]
      have HBD0 : Aside (BodyAt w3.heap.size w5 w3.heap.size (.slice none 0 0) #[] (-1)) := by
        have h0 := BodyAt.new w3
        exact ⟨h0.base, (hgrow5.block _ (blk_lt h0.blk) (by simp)).trans h0.blk, h0.row.keep fun g _ hg => hgrow5.block g hg (by simp), h0.ok, h0.lo, h0.hi, h0.few⟩
      have HF5 : Aside (Below w.heap.size w w5) := (hb1.out.alloc hb1.out.size _).trans ⟨hgrow5.os, hgrow5.tape, hgrow5.output, hgrow5.size, fun k hk => hgrow5.block k (by have := hb1.out.size; simp; omega) (by simp)⟩
      obtain ⟨M, hMM⟩ : ∃ M, M = L ++ [(⟨(a : Int), s.extract a s.size, false⟩ : Pc)] := ⟨_, rfl⟩
      have HML : Aside (M.length = m) := by
        show M.length = m
        rw [hMM, List.length_append]; exact HM.out
      rw [← hMM] at HCC hown2
      have HC0 : Aside (Came s M (List.replicate m false) #[] (-1)) := by
        have := Came.start HCC.out
        rw [HML.out] at this
        exact this
      have HCB0 : Aside (CameAt w5 (w3.heap.size + 1) (List.replicate m false)) := hcb1
      have HL5 : Aside (w5.ownsRow w.heap.size 77 3 (.slice (some ⟨g2, 0, none⟩) m cap3) M.length (M.flatMap encP)) :=
        (World.ownsRow.alloc (h := hown2.out) _).kept hgrow5 (.inr (by simp [Value.ownBlock]))
      have hgB : Aside (w.heap.size ≤ w3.heap.size) := hb1.out.size
      clear hcb0 hcb1 hown5 hgrow5 hcs5 hMM HM hb1 hown2 hnew hj0 hy0 hy1 hy2 hi0 hz0 hz1 hz2 HP HO HB hs1 et1 has hasz ha hL HI
      generalize hbb : w3.heap.size = bb at *
      clear hbb
      go_loopg [13] (n2 + m) (fun kx s13 wr => ∃ (i : Nat) (v : Value) (d : Array Pc) (e : Int) (c : List Bool), s13 = .int .i64 i ∧ i ≤ n2 + m ∧ n2 + m - i ≤ kx ∧ Aside (BodyAt bb wr bb v d e) ∧ Aside (CameAt wr (bb + 1) c) ∧ Aside (Came s M c d e) ∧ Aside (Below bb w5 wr))
      case atStart => exact ⟨0, _, _, _, _, rfl, Nat.zero_le _, Nat.le_refl _, HBD0, HCB0, HC0, Below.refl _ _⟩
      case round =>
        clear HBD0 HCB0 HC0
        obtain ⟨i, v, d, e, c, rfl, hi, hkx, HBD, HCA, HCM, HF⟩ := hrel
        by_cases hlt : i < n2 + m
        · have hltz : (i : Int) < (n2 : Int) + (m : Int) := by omega
          have r0 : IntKind.i64.wrap ((i : Int) - (n2 : Int)) = (i : Int) - (n2 : Int) := IntWalk.i64_in _ (by omega)
          go_upto_if 106 with fail
          clear r0
          go_cut [14] from 99 to 114 (fun s14 wx => ∃ k : Nat, s14 = .int .i64 k ∧ k < m ∧ wx = wr)
          case first =>
            by_cases hi2 : i < n2
            · have hi2z : (i : Int) < (n2 : Int) := by omega
              obtain ⟨a2, rfl, hab2, hc2, hF2⟩ := H2.out i hi2
              have hcr := (HF5.out.trans (HF.out.mono hgB.out)).cell (p := a2.add i) (by rw [add_block]; exact hab2)
              have hcr2 := hcr.trans hc2
              clear hcr hc2
              generalize F2 i = f at hcr2 hF2
              have hf0 : (0 : Int) ≤ (f : Int) := by omega
              have hf1 : (f : Int) < 256 := by omega
              have hmz : (0 : Int) < (m : Int) := by omega
              have hmz2 : (m : Int) ≠ 0 := by omega
              go_wp2
              go_meet
              exact ⟨f % m, by rw [Int.natCast_emod], Nat.mod_lt _ (by omega), rfl⟩
            · have hi2z : ¬ (i : Int) < (n2 : Int) := by omega
              go_wp2
              go_meet
              exact ⟨i - n2, by go_num, by omega, rfl⟩
          case rest =>
            obtain ⟨k, rfl, hk, hwx⟩ := hcut
            subst hwx
            have hkz : (k : Int) < (m : Int) := by omega
            have hkM : k < M.length := by rw [HML.out]; exact hk
            have hkc : k < c.length := by rw [HCM.out.len]; exact hkM
            obtain ⟨l0, l1, l2⟩ := L_cells HL5.out HML.out hk
            have k0 : wc.cell? ⟨g2, k * 3, none⟩ = some (.int .i64 (M[k]!).frm) := (HF.out.cell (p := ⟨g2, k * 3, none⟩) hlt3).trans l0
            have k1 : wc.cell? ⟨g2, k * 3 + 1, none⟩ = some (.string (M[k]!).data) := (HF.out.cell (p := ⟨g2, k * 3 + 1, none⟩) hlt3).trans l1
            have k2 : wc.cell? ⟨g2, k * 3 + 2, none⟩ = some (.bool (M[k]!).more) := (HF.out.cell (p := ⟨g2, k * 3 + 2, none⟩) hlt3).trans l2
            have hds : d.size ≤ 21 := by have := HCM.out.size; have := HML.out; omega
            have hpk : M[k]! = M[k] := getElem!_pos M k hkM
            have hokk : (M[k]!).Ok := by rw [hpk]; exact HCC.out.ok _ (List.getElem_mem hkM)
            have HST : Aside (∀ r d' e', AddStep d e M[k]! r d' e' → r = 0 ∧ Came s M (c.set k true) d' e') := fun r d' e' hs' => came_step HCC.out HCM.out hkM (by rw [← hpk]; exact hs')
            have HBDd : Aside (BodyAt bb wc.drew bb v d e) := ⟨HBD.out.base, HBD.out.blk, HBD.out.row, HBD.out.ok, HBD.out.lo, HBD.out.hi, HBD.out.few⟩
            have HCAd : Aside (CameAt wc.drew (bb + 1) c) := HCA.out
            have hAdd := add_foot (M[k]!) wc.drew HBDd.out (by omega) (by have h1 := hokk.len; have h2 := hokk.lo; unfold maxLen; omega)
            have HKC := Lib.hid hkc
            generalize M[k]! = p at k0 k1 k2 hAdd HST
            clear l0 l1 l2 hpk hokk hkM hkc
            have ek : ((k : Int)).toNat = k := by omega
            go_wp2_with fail
            go_region_held3 (fun w' => w'.cell? ⟨g2, k * 3, none⟩ = some (.int .i64 p.frm) ∧ w'.cell? ⟨g2, k * 3 + 1, none⟩ = some (.string p.data) ∧ w'.cell? ⟨g2, k * 3 + 2, none⟩ = some (.bool p.more))
              (first | (exact ⟨(hb2.cell (p := ⟨g2, k * 3, none⟩) hlt3).trans k0, (hb2.cell (p := ⟨g2, k * 3 + 1, none⟩) hlt3).trans k1, (hb2.cell (p := ⟨g2, k * 3 + 2, none⟩) hlt3).trans k2⟩) | go_keep)
              ((go_at_call 34; refine hAdd.mono ?_; rintro r w6 ⟨n3, v3, d3, e3, rfl, hst, hft, hbd⟩; have hb2 := Foot.to_below HBDd.out hft; obtain ⟨rfl, hcm⟩ := HST.out _ _ _ hst))
            all_goals
              have HCA6 : Aside (CameAt w6 (bb + 1) c) := HCAd.out.foot HBDd.out hft
              have HBD6 : Aside (BodyAt bb w6 bb v3 d3 e3) := hbd
              have HCM6 : Aside (Came s M (c.set k true) d3 e3) := hcm
              have HF6 : Aside (Below bb w5 w6) := HF.out.drew.trans hb2
              clear hAdd k0 k1 k2 hst hft hbd hb2 hcm HBD HCA HCM HF HST HBDd HCAd
              have hcc := HCA6.out.cell HKC.out
              have hcf : w6.frozen? ⟨bb + 1, k, none⟩ = false := blk_free HCA6.out k
              have HCA7 : Aside (CameAt (w6.setCell ⟨bb + 1, k, none⟩ (.bool true)) (bb + 1) (c.set k true)) := HCA6.out.set k
              have HBD7 : Aside (BodyAt bb (w6.setCell ⟨bb + 1, k, none⟩ (.bool true)) bb v3 d3 e3) := HBD6.out.setCame HCA6.out k _
              have HF7 : Aside (Below bb w5 (w6.setCell ⟨bb + 1, k, none⟩ (.bool true))) := HF6.out.setCell (p := ⟨bb + 1, k, none⟩) (Nat.le_succ _) _
              go_wp2
              have HLc : Aside ((c.set k true).length = m) := by
                show (c.set k true).length = m
                rw [HCM6.out.len]; exact HML.out
              generalize c.set k true = c2 at HCA7 HCM6 HLc
              generalize w6.setCell ⟨bb + 1, k, none⟩ (.bool true) = w7 at HCA7 HBD7 HF7 ⊢
              clear hcc hcf HCA6 HBD6 HF6
              go_loop [15, 16] (fun s15 s16 => ∃ j : Nat, s16 = .int .i64 j ∧ s15 = .bool ((c2.take j).all id) ∧ j ≤ m) (fun _ s16 => m - (intOf s16).toNat)
              case atStart => exact ⟨0, rfl, rfl, Nat.zero_le _⟩
              case round =>
                obtain ⟨j, rfl, rfl, hj⟩ := hrel
                by_cases hjm : j < m
                · have hjz : (j : Int) < (m : Int) := by omega
                  have HAS : Aside ((c2.take (j + 1)).all id = ((c2.take j).all id && c2[j]!)) := all_take_succ c2 (by rw [HLc.out]; exact hjm)
                  have hcc := HCA7.out.cell (k := j) (by rw [HLc.out]; exact hjm)
                  generalize (c2.take j).all id = b1 at HAS
                  generalize c2[j]! = b2 at HAS hcc
                  cases b1 with
                  | false =>
                    go_wp2
                    go_round
                    case rel => exact ⟨j + 1, by go_num, by rw [HAS.out]; rfl, by omega⟩
                    case measure => simp [intOf]; omega
                  | true =>
                    go_wp2
                    go_round
                    case rel => exact ⟨j + 1, by go_num, by rw [HAS.out, Bool.true_and], by omega⟩
                    case measure => simp [intOf]; omega
                · have hjz : ¬ (j : Int) < (m : Int) := by omega
                  obtain rfl : j = m := by omega
                  rw [List.take_of_length_le (by rw [HLc.out]; exact Nat.le_refl _)]
                  cases hall : c2.all id with
                  | true =>
                    have hca := came_all HCC.out HCM6.out (fun b hb => by simpa using List.all_eq_true.1 hall b hb)
                    have hD := done_all w7 HBD7.out hca.1 hca.2.1
                    have hstr : (⟨(catTo d3 d3.size).toArray⟩ : ByteArray) = s := by
                      apply ByteArray.ext
                      apply Array.toList_inj.1
                      simpa using hca.2.2
                    rw [hstr] at hD
                    clear hca hstr hall
                    go_wp2_with fail
                    refine hD.mono ?_
                    rintro r w8 ⟨rfl, hb8⟩
                    have HBD8 : Aside (BodyAt bb w8 bb v3 d3 e3) := HBD7.out.below hb8
                    have HCA8 : Aside (CameAt w8 (bb + 1) c2) := (hb8.block _ (blk_lt HCA7.out)).trans HCA7.out
                    have HF8 : Aside (Below bb w5 w8) := HF7.out.trans (hb8.mono (by have := blk_lt HBD7.out.blk; omega))
                    clear hD hb8 HBD7 HCA7 HF7
                    go_wp2
                    go_roundg (n2 + j - (i + 1))
                    case measure => omega
                    case rel => exact ⟨i + 1, _, _, _, _, by go_num, by omega, Nat.le_refl _, HBD8, HCA8, HCM6, HF8⟩
                  | false =>
                    have hex : ∃ k', k' < M.length ∧ c2[k']? = some false := by
                      obtain ⟨x, hx, hxf⟩ := List.all_eq_false.1 hall
                      obtain ⟨k', hk', rfl⟩ := List.getElem_of_mem hx
                      refine ⟨k', by rw [← HCM6.out.len]; exact hk', ?_⟩
                      rw [List.getElem?_eq_getElem hk']
                      cases hb : c2[k'] with
                      | false => rfl
                      | true => rw [hb] at hxf; exact absurd rfl hxf
                    obtain ⟨k', hk', hkf⟩ := hex
                    have hD : Calls Try.prog 35 #[.pointer (some ⟨bb, 0, none⟩)] w7 fun r w' => r = .returned (.tuple #[.string ⟨#[]⟩, .bool false]) ∧ Below w7.heap.size w7 w' := by
                      rcases came_some HCC.out HCM6.out hk' hkf with he | ⟨he, hh⟩
                      · exact done_open w7 HBD7.out he
                      · exact done_holes w7 HBD7.out he hh
                    clear hall hkf hk'
                    go_wp2_with fail
                    refine hD.mono ?_
                    rintro r w8 ⟨rfl, hb8⟩
                    have HBD8 : Aside (BodyAt bb w8 bb v3 d3 e3) := HBD7.out.below hb8
                    have HCA8 : Aside (CameAt w8 (bb + 1) c2) := (hb8.block _ (blk_lt HCA7.out)).trans HCA7.out
                    have HF8 : Aside (Below bb w5 w8) := HF7.out.trans (hb8.mono (by have := blk_lt HBD7.out.blk; omega))
                    clear hD hb8 HBD7 HCA7 HF7
                    go_wp2
                    go_roundg (n2 + j - (i + 1))
                    case measure => omega
                    case rel => exact ⟨i + 1, _, _, _, _, by go_num, by omega, Nat.le_refl _, HBD8, HCA8, HCM6, HF8⟩
        · have hltz : ¬ (i : Int) < (n2 : Int) + (m : Int) := by omega
          go_wp2
          go_ret
          exact ⟨rfl, HF5.out.trans (HF.out.mono hgB.out)⟩
  · have hAll : ∀ b1 b2 b3 : Prop, True := fun _ _ _ => trivial
    by_cases hs : s.size ≤ 300
    · by_cases h20 : n1 ≤ 20
      · have h60 : ¬ n2 ≤ 60 := fun h => hg ⟨hs, h20, h⟩
        have hsz : (s.size : Int) ≤ 300 := by omega
        have hn1z : (n1 : Int) ≤ 20 := by omega
        have hn2z : ¬ (n2 : Int) ≤ 60 := by omega
        clear h1 h2 hg hAll
        go_enter Try.func8, Try.ntmps8
        go_wp2_with (go_at_call 32; refine (hAw _).mono ?_; rintro r w1 ⟨rfl, hb⟩)
        go_ret
        exact ⟨rfl, hb⟩
      · have hsz : (s.size : Int) ≤ 300 := by omega
        have hn1z : ¬ (n1 : Int) ≤ 20 := by omega
        clear h1 h2 hg hAll
        go_enter Try.func8, Try.ntmps8
        go_wp2_with (go_at_call 32; refine (hAw _).mono ?_; rintro r w1 ⟨rfl, hb⟩)
        go_ret
        exact ⟨rfl, hb⟩
    · have hsz : ¬ (s.size : Int) ≤ 300 := by omega
      clear h1 h2 hg hAll
      go_enter Try.func8, Try.ntmps8
      go_wp2_with (go_at_call 32; refine (hAw _).mono ?_; rintro r w1 ⟨rfl, hb⟩)
      go_ret
      exact ⟨rfl, hb⟩

end Go.Proofs.Ytcmgfmpmapnckaa
