/- Walks of package hole, part three: Holes. -/
import Derived.Test.YtcmgfmpmapnckaaHp
import Derived.WalkMore
namespace Go.Proofs.Ytcmgfmpmapnckaa
open Go.Shelf Go.RowKit Go.Lib Go.Sort
set_option linter.unusedVariables false
set_option linter.unusedSimpArgs false

def encH (h : Int × Int) : List Value := [.int .i64 h.1, .int .i64 h.2]
def hstep (s : List (Int × Int) × Int) (p : Pc) : List (Int × Int) × Int :=
  if p.data.size = 0 then s else (if p.frm > s.2 then s.1 ++ [(s.2, p.frm)] else s.1, p.to_)
def holesTo (d : Array Pc) (i : Nat) : List (Int × Int) × Int := (d.toList.take i).foldl hstep ([], 0)
def holesOf (d : Array Pc) (e : Int) : List (Int × Int) :=
  if (holesTo d d.size).2 < topOf e then (holesTo d d.size).1 ++ [((holesTo d d.size).2, topOf e)] else (holesTo d d.size).1
theorem holesTo_succ (d : Array Pc) {i : Nat} (hi : i < d.size) : holesTo d (i + 1) = hstep (holesTo d i) d[i]! := by
  unfold holesTo; rw [take_snoc_d d hi]; simp
theorem hstep_len (s : List (Int × Int) × Int) (p : Pc) : (hstep s p).1.length ≤ s.1.length + 1 := by
  unfold hstep; split
  · omega
  · split <;> simp
theorem holesTo_bd (d : Array Pc) (ok : ∀ i, i < d.size → d[i]!.Ok) : ∀ i, i ≤ d.size → (holesTo d i).1.length ≤ i ∧ 0 ≤ (holesTo d i).2 ∧ (holesTo d i).2 ≤ 65535
  | 0, _ => ⟨Nat.le_refl _, Int.le_refl _, by show (0 : Int) ≤ 65535; omega⟩
  | i + 1, hi => by
    rw [holesTo_succ d hi]
    have h0 := holesTo_bd d ok i (by omega)
    have h := ok i (by omega)
    have := h.len; have := h.lo
    have hl := hstep_len (holesTo d i) d[i]!
    refine ⟨by omega, ?_⟩
    unfold hstep
    split
    · exact h0.2
    · show 0 ≤ d[i]!.to_ ∧ d[i]!.to_ ≤ 65535
      unfold Pc.to_; omega

def HolesPost (w : World) (l : List (Int × Int)) (r : Ending) (w' : World) : Prop := ∃ lv, r = .returned lv ∧ w'.ownsRow w.heap.size 89 2 lv l.length (l.flatMap encH) ∧ Below w.heap.size w w'

theorem info89 : (Try.prog.info? 89).map (fun i => (i.zero, i.size, i.bytes)) = some (some (.agg #[.int .i64 0, .int .i64 0]), 2, 16) := by kernel_rfl

set_option maxHeartbeats 4000000 in
set_option maxRecDepth 100000 in
theorem holes_any {B b : Nat} {v : Value} {d : Array Pc} {e : Int} (w : World) (h : BodyAt B w b v d e) :
    Calls Try.prog 37 #[.pointer (some ⟨b, 0, none⟩)] w (HolesPost w (holesOf d e)) := by
  obtain ⟨A, cap, rfl, hA, hf⟩ := row_cells h.row
  obtain ⟨i0, hi0, hz0, hz1, hz2⟩ := info_parts info89
  have hfew := h.few
  have hc0 : w.cell? ⟨b, 0, none⟩ = some (.slice A d.size cap) := (blk_cell h.blk 0).trans rfl
  have OK := Lib.hid h.ok
  have HA := Lib.hid hA
  have HF := Lib.hid hf
  have HB := Lib.hid h.blk
  have he0 := h.lo
  have he1 := h.hi
  have ht0 : 0 ≤ topOf e ∧ topOf e ≤ 65535 := by unfold topOf; split <;> omega
  clear h hA hf
  go_enter Try.func37, Try.ntmps37
  go_wp2
  go_step3
  go_wp2
  go_step3
  go_wp2
  go_loopg [3, 4, 14] d.size (fun kx s3 s4 s14 wr => ∃ (i : Nat) (lv : Value), s14 = .int .i64 i ∧ lv = s3 ∧ s4 = .int .i64 (holesTo d i).2 ∧ i ≤ d.size ∧ d.size - i ≤ kx ∧
    Aside (wr.ownsRow w.heap.size 89 2 lv (holesTo d i).1.length ((holesTo d i).1.flatMap encH)) ∧ Below w.heap.size w wr)
  case atStart => exact ⟨0, .slice none 0 0, rfl, rfl, rfl, Nat.zero_le _, Nat.le_refl _, World.ownsRow_nil _ _ _ _, Below.refl _ _⟩
  case round =>
    obtain ⟨i, lv, rfl, rfl, rfl, hi, hkx, hown, hb⟩ := hrel
    by_cases hlt : i < d.size
    · have hltz : (i : Int) < (d.size : Int) := by omega
      obtain ⟨g, rfl⟩ := HA.out.resolve_left (by omega)
      obtain ⟨_, hg, _, hcs⟩ := HF.out g rfl
      obtain ⟨c0, c1, c2⟩ := hcs i hlt _ hb
      have HS : Aside (holesTo d (i + 1) = hstep (holesTo d i) d[i]!) := holesTo_succ d hlt
      obtain ⟨hle0, hle1, hle2⟩ := holesTo_bd d OK.out i (by omega)
      have hok := OK.out i hlt
      have hl0 : 0 ≤ d[i]!.frm := hok.lo
      have hl : d[i]!.frm + (d[i]!.data.size : Int) ≤ 65535 := hok.len
      obtain ⟨p, hp⟩ : ∃ p, p = d[i]! := ⟨_, rfl⟩
      rw [← hp] at c0 c1 c2 hl hl0 HS
      clear hcs hok hp
      obtain ⟨L, hL⟩ : ∃ L, L = holesTo d i := ⟨_, rfl⟩
      rw [← hL] at HS hle0 hle1 hle2 hown ⊢
      clear hL
      have hT0 : 0 ≤ p.to_ := by unfold Pc.to_; omega
      have hT1 : p.to_ ≤ 65535 := by unfold Pc.to_; omega
      have hs1 : w.heap.size ≤ wr.heap.size := hb.size
      have hT := fun W => to_any p W hl0 hl
      by_cases hd : p.data.size = 0
      · have HE : Aside (holesTo d (i + 1) = L) := HS.out.trans (if_pos hd)
        obtain ⟨e1, e2⟩ := ba_nil hd
        clear hd HS hT
        go_wp2
        go_roundg (d.size - (i + 1))
        case measure => omega
        case rel => exact ⟨i + 1, _, by go_num, rfl, by rw [HE.out], by omega, Nat.le_refl _, by rw [HE.out]; exact hown.out.alloc _, hb.alloc hs1 _⟩
      · obtain ⟨e1, e2⟩ := ba_cons hd
        by_cases hfr : p.frm > L.2
        · have HE : Aside (holesTo d (i + 1) = (L.1 ++ [(L.2, p.frm)], p.to_)) := HS.out.trans (by unfold hstep; rw [if_neg hd, if_pos hfr])
          clear hd HS
          have hn : L.1.length + 1 ≤ maxLen := by unfold maxLen; omega
          have hby : (L.1.length + 1) * 16 ≤ 140737488355328 := by omega
          go_wp2_with (at_builtin; refine wpList_append_lies _ rfl (.tmp 25) (.tmp 30) 86 rfl w.heap.size 89 i0 _ 2 16 Try.underlying86 hi0 hz0 hz1 hz2 rfl (by decide) _ _ _ rfl ((hown.out.alloc _).alloc _) ⟨wr.heap.size + 1, 0, none⟩ 1 1 [.int .i64 L.2, .int .i64 p.frm] rfl rfl (World.news_of_block (cs := #[.int .i64 L.2, .int .i64 p.frm]) (t := 89) (fr := (0, 0)) ((congrArg (fun n => ((wr.alloc (.cells #[.int .i64 p.frm, .string p.data, .bool p.more] 150)).alloc (.cells #[.int .i64 L.2, .int .i64 p.frm] 89)).heap[n]?) (by simp)).trans (heap_alloc_new _ _))) (by simp [Value.oneCell']) (by omega) hn hby (by simp; omega) _ rfl ?_; intro g2 cap2 w1 hown1 hgrow hat hlt2; (have hk : w1.heap[wr.heap.size]? = some (.cells #[.int .i64 p.frm, .string p.data, .bool p.more] 150 (0, 0)) := (hgrow.block wr.heap.size (by simp; omega) (fun e => by have := (hown.out.lt _ e.symm).2; omega)).trans (blk_alloc (blk_new wr _) _)); (have d0 : w1.cell? ⟨wr.heap.size, 0, none⟩ = some (.int .i64 p.frm) := (blk_cell hk 0).trans rfl); (have d1 : w1.cell? ⟨wr.heap.size, 1, none⟩ = some (.string p.data) := (blk_cell hk 1).trans rfl); (have d2 : w1.cell? ⟨wr.heap.size, 2, none⟩ = some (.bool p.more) := (blk_cell hk 2).trans rfl); (have hb1 : Below w.heap.size w w1 := ((hb.alloc hs1 _).alloc (by simp; omega) _).trans ⟨hgrow.os, hgrow.tape, hgrow.output, hgrow.size, fun k hk => hgrow.block k (by simp; omega) (fun e => by have := (hown.out.lt _ e.symm).1; omega)⟩); (have hs2 : w.heap.size ≤ w1.heap.size := hb1.size); (have hown2 : Aside (w1.ownsRow w.heap.size 89 2 (.slice (some ⟨g2, 0, none⟩) (L.1.length + 1) cap2) (L.1 ++ [(L.2, p.frm)]).length ((L.1 ++ [(L.2, p.frm)]).flatMap encH)) := by (rw [List.length_append, List.flatMap_append]; exact hown1)); clear hk hgrow hat hown1 hown hb hn hby hlt2 c0 c1 c2)
          go_wp2_with (go_at_call 79; refine (hT _).mono ?_; rintro e w2 ⟨rfl, rfl⟩)
          go_roundg (d.size - (i + 1))
          case measure => omega
          case rel => exact ⟨i + 1, _, by go_num, rfl, by rw [HE.out], by omega, Nat.le_refl _, by rw [HE.out]; exact hown2.out.alloc _, hb1.alloc hs2 _⟩
        · have HE : Aside (holesTo d (i + 1) = (L.1, p.to_)) := HS.out.trans (by unfold hstep; rw [if_neg hd, if_neg hfr])
          clear hd HS
          go_wp2_with (go_at_call 79; refine (hT _).mono ?_; rintro e w1 ⟨rfl, rfl⟩)
          go_roundg (d.size - (i + 1))
          case measure => omega
          case rel => exact ⟨i + 1, _, by go_num, rfl, by rw [HE.out], by omega, Nat.le_refl _, by rw [HE.out]; exact (hown.out.alloc _).alloc _, (hb.alloc hs1 _).alloc (by simp; omega) _⟩
    · have hltz : ¬ (i : Int) < (d.size : Int) := by omega
      obtain rfl : i = d.size := by omega
      obtain ⟨hle0, hle1, hle2⟩ := holesTo_bd d OK.out d.size (Nat.le_refl _)
      have hbk : wr.heap[b]? = some (.cells #[.slice A d.size cap, .int .i64 e] 148 (0, 0)) := (hb.block b (blk_lt HB.out)).trans HB.out
      have HO : Aside (holesOf d e = if (holesTo d d.size).2 < topOf e then (holesTo d d.size).1 ++ [((holesTo d d.size).2, topOf e)] else (holesTo d d.size).1) := rfl
      obtain ⟨L, hL⟩ : ∃ L, L = holesTo d d.size := ⟨_, rfl⟩
      rw [← hL] at HO hle0 hle1 hle2 hown ⊢
      clear hL
      have hT := top_any wr hbk
      by_cases hlt2 : L.2 < topOf e
      · have HE : Aside (holesOf d e = L.1 ++ [(L.2, topOf e)]) := HO.out.trans (if_pos hlt2)
        obtain ⟨tp, htp⟩ : ∃ tp, tp = topOf e := ⟨_, rfl⟩
        rw [← htp] at ht0 hT hlt2 HE
        clear htp
        clear HO
        have hn : L.1.length + 1 ≤ maxLen := by unfold maxLen; omega
        have hby : (L.1.length + 1) * 16 ≤ 140737488355328 := by omega
        have hs1 : w.heap.size ≤ wr.heap.size := hb.size
        go_wp2_with (first
          | (go_at_call 85; refine hT.mono ?_; rintro r w2 ⟨rfl, rfl⟩)
          | (at_builtin; refine wpList_append_lies _ rfl (.tmp 39) (.tmp 44) 86 rfl w.heap.size 89 i0 _ 2 16 Try.underlying86 hi0 hz0 hz1 hz2 rfl (by decide) _ _ _ rfl (hown.out.alloc _) ⟨wr.heap.size, 0, none⟩ 1 1 [.int .i64 L.2, .int .i64 tp] rfl rfl (World.news_of_block (cs := #[.int .i64 L.2, .int .i64 tp]) (t := 89) (fr := (0, 0)) (heap_alloc_new _ _)) (by simp [Value.oneCell']) (by omega) hn hby (by simp; omega) _ rfl ?_; intro g2 cap2 w1 hown1 hgrow hat hlt3; (have hb1 : Below w.heap.size w w1 := (hb.alloc hs1 _).trans ⟨hgrow.os, hgrow.tape, hgrow.output, hgrow.size, fun k hk => hgrow.block k (by simp; omega) (fun e => by have := (hown.out.lt _ e.symm).1; omega)⟩); (have hown2 : Aside (w1.ownsRow w.heap.size 89 2 (.slice (some ⟨g2, 0, none⟩) (L.1.length + 1) cap2) (L.1 ++ [(L.2, tp)]).length ((L.1 ++ [(L.2, tp)]).flatMap encH)) := by (rw [List.length_append, List.flatMap_append]; exact hown1)); clear hgrow hat hown1 hown hb hn hby))
        (try rw [Exit.noGoto_ret])
        go_ret
        exact ⟨_, rfl, by rw [HE.out]; exact hown2.out, hb1⟩
      · have HE : Aside (holesOf d e = L.1) := HO.out.trans (if_neg hlt2)
        obtain ⟨tp, htp⟩ : ∃ tp, tp = topOf e := ⟨_, rfl⟩
        rw [← htp] at ht0 hT hlt2
        clear htp
        clear HO
        go_wp2_with (go_at_call 85; refine hT.mono ?_; rintro r w2 ⟨rfl, rfl⟩)
        (try rw [Exit.noGoto_ret])
        go_ret
        exact ⟨_, rfl, by rw [HE.out]; exact hown.out, hb⟩

end Go.Proofs.Ytcmgfmpmapnckaa
