/- Walks of package hole, part seven: Done. -/
import Derived.Test.YtcmgfmpmapnckaaHv
namespace Go.Proofs.Ytcmgfmpmapnckaa
open Go.Shelf Go.RowKit Go.Lib Go.Sort
set_option linter.unusedVariables false
set_option linter.unusedSimpArgs false

def catTo (d : Array Pc) (i : Nat) : List UInt8 := (d.toList.take i).flatMap (·.data.data.toList)
theorem catTo_succ (d : Array Pc) {i : Nat} (hi : i < d.size) : catTo d (i + 1) = catTo d i ++ d[i]!.data.data.toList := by
  unfold catTo; rw [take_snoc_d d hi]; simp
theorem catTo_len (d : Array Pc) : ∀ i, i ≤ d.size → (catTo d i).length = sumTo d i
  | 0, _ => rfl
  | i + 1, hi => by
    rw [catTo_succ d hi, sumTo_succ d hi, List.length_append, catTo_len d i (by omega), Lib.size_eq]

theorem done_open {B b : Nat} {v : Value} {d : Array Pc} {e : Int} (w : World) (h : BodyAt B w b v d e) (he : e < 0) :
    Calls Try.prog 35 #[.pointer (some ⟨b, 0, none⟩)] w fun r w' => r = .returned (.tuple #[.string ⟨#[]⟩, .bool false]) ∧ Below w.heap.size w w' := by
  have hc1 : w.cell? ⟨b, 1, none⟩ = some (.int .i64 e) := (blk_cell h.blk 1).trans rfl
  clear h
  go_enter Try.func35, Try.ntmps35
  go_wp2
  go_ret2
  exact ⟨rfl, Below.refl _ _⟩

theorem own_len_form {w : World} {B : Nat} {T : TypeId} {k : Nat} {v : Value} {n : Nat} {xs : List Value} (h : w.ownsRow B T k v n xs) : ∃ A cap, v = .slice A n cap := by
  rcases h.2 with ⟨rfl, rfl⟩ | ⟨g, cap, cur, rfl, _⟩
  · exact ⟨_, _, rfl⟩
  · exact ⟨_, _, rfl⟩

theorem done_holes {B b : Nat} {v : Value} {d : Array Pc} {e : Int} (w : World) (h : BodyAt B w b v d e) (he : 0 ≤ e) (hh : holesOf d e ≠ []) :
    Calls Try.prog 35 #[.pointer (some ⟨b, 0, none⟩)] w fun r w' => r = .returned (.tuple #[.string ⟨#[]⟩, .bool false]) ∧ Below w.heap.size w w' := by
  have hc1 : w.cell? ⟨b, 1, none⟩ = some (.int .i64 e) := (blk_cell h.blk 1).trans rfl
  have hH := holes_any w h
  have hl : 0 < (holesOf d e).length := List.length_pos_iff.2 hh
  generalize holesOf d e = L at hH hl
  have hlz : (0 : Int) < (L.length : Int) := by omega
  clear h hh
  go_enter Try.func35, Try.ntmps35
  go_wp2_with fail
  refine hH.mono ?_
  rintro r w1 ⟨lv, rfl, hown, hb⟩
  obtain ⟨A, cap, rfl⟩ := own_len_form hown
  have HB := Lib.hid hb
  clear hown hb hH
  go_wp2
  go_ret2
  exact ⟨rfl, HB.out⟩

set_option maxHeartbeats 2000000 in
theorem done_all {B b : Nat} {v : Value} {d : Array Pc} {e : Int} (w : World) (h : BodyAt B w b v d e) (he : 0 ≤ e) (hh : holesOf d e = []) :
    Calls Try.prog 35 #[.pointer (some ⟨b, 0, none⟩)] w fun r w' => r = .returned (.tuple #[.string ⟨(catTo d d.size).toArray⟩, .bool true]) ∧ Below w.heap.size w w' := by
  have hc1 : w.cell? ⟨b, 1, none⟩ = some (.int .i64 e) := (blk_cell h.blk 1).trans rfl
  have hH := holes_any w h
  rw [hh] at hH
  have HD : Aside (BodyAt B w b v d e) := h
  clear h hh
  go_enter Try.func35, Try.ntmps35
  go_wp2_with fail
  refine hH.mono ?_
  rintro r w1 ⟨lv, rfl, hown, hb⟩
  obtain ⟨A0, cap0, rfl⟩ := own_len_form hown
  have HB := Lib.hid hb
  have HD1 : Aside (BodyAt B w1 b v d e) := HD.out.below hb
  clear hown hb hH HD
  obtain ⟨A, cap, rfl, hA, hf⟩ := row_cells HD1.out.row
  have hc0 : w1.cell? ⟨b, 0, none⟩ = some (.slice A d.size cap) := (blk_cell HD1.out.blk 0).trans rfl
  have hfew := HD1.out.few
  have OK := Lib.hid HD1.out.ok
  have HA := Lib.hid hA
  have HF := Lib.hid hf
  have hbl : b < w1.heap.size := blk_lt HD1.out.blk
  have hc2 : (w1.alloc (.cells #[.pointer none, .slice none 0 0] 101)).cell? ⟨b, 0, none⟩ = some (.slice A d.size cap) := (blk_cell (blk_alloc HD1.out.blk _) 0).trans rfl
  clear hA hf hc1
  go_wp2_with fail
  have hbd0 : BdAt w1.heap.size (w1.alloc (.cells #[.pointer none, .slice none 0 0] 101)) w1.heap.size 101 0 #[.pointer none, .slice none 0 0] (catTo d 0) :=
    ⟨.inl ⟨rfl, rfl, rfl⟩, Nat.le_refl _, heap_alloc_new _ _, .inl rfl, .slice none 0 0, rfl, World.ownsRow_nil _ _ _ _, fun _ => rfl⟩
  have HBD0 : Aside _ := hbd0
  clear hbd0
  go_loopg [27] d.size (fun kx s27 wr => ∃ (i : Nat) (cs : Array Value), s27 = .int .i64 i ∧ i ≤ d.size ∧ d.size - i ≤ kx ∧ Aside (BdAt w1.heap.size wr w1.heap.size 101 0 cs (catTo d i)) ∧ Below w1.heap.size w1 wr)
  case atStart => exact ⟨0, _, rfl, Nat.zero_le _, Nat.le_refl _, HBD0, (Below.refl _ _).alloc (Nat.le_refl _) _⟩
  case round =>
    clear HBD0
    obtain ⟨i, cs, rfl, hi, hkx, hbd, hb⟩ := hrel
    by_cases hlt : i < d.size
    · have hltz : (i : Int) < (d.size : Int) := by omega
      obtain ⟨g, rfl⟩ := HA.out.resolve_left (by omega)
      obtain ⟨_, hg, _, hcs⟩ := HF.out g rfl
      obtain ⟨c0, c1, c2⟩ := hcs i hlt _ hb
      have HS : Aside (catTo d (i + 1) = catTo d i ++ d[i]!.data.data.toList) := catTo_succ d hlt
      have hlen : (catTo d i).length ≤ 70000000 := by rw [catTo_len d i (by omega)]; have := sumTo_le d OK.out i (by omega); omega
      have hok := OK.out i hlt
      have hl : d[i]!.data.size ≤ 65535 := by have := hok.len; have := hok.lo; omega
      obtain ⟨p, hp⟩ : ∃ p, p = d[i]! := ⟨_, rfl⟩
      rw [← hp] at c0 c1 c2 hl HS
      clear hcs hok hp
      generalize catTo d i = L at HS hlen hbd
      have hs1 : w1.heap.size ≤ wr.heap.size := hb.size
      have hbd2 : BdAt w1.heap.size (wr.alloc (.cells #[.int .i64 p.frm, .string p.data, .bool p.more] 150)) w1.heap.size 101 0 cs L := by
        obtain ⟨a1, a2, a3, a4, v0, a5, a6, a7⟩ := hbd.out
        exact ⟨a1, a2, blk_alloc a3 _, a4, v0, a5, a6.alloc _, a7⟩
      have hW := writeString_any w1.heap.size w1.heap.size 0 101 cs L p.data _ hbd2 (by omega) (by simp; omega)
      have HB2 := Lib.hid hb
      have HWH := Lib.hid hW
      clear hb hbd hbd2 hW
      go_wp2_with fail
      refine HWH.out.mono ?_
      rintro r w2 ⟨rfl, ⟨v0, hbd3⟩, hst⟩
      have hb3 : Below w1.heap.size w1 w2 := (HB2.out.alloc hs1 _).trans (hst.below (by simp; omega))
      have HB3 := Lib.hid hb3
      have HBD3 : Aside _ := hbd3
      clear hst hb3 hbd3
      go_wp2
      go_roundg (d.size - (i + 1))
      case measure => omega
      case rel => exact ⟨i + 1, _, by go_num, by omega, Nat.le_refl _, by rw [HS.out]; exact HBD3, HB3.out⟩
    · have hltz : ¬ (i : Int) < (d.size : Int) := by omega
      obtain rfl : i = d.size := by omega
      have hS := bdString_any w1.heap.size w1.heap.size 0 101 cs (catTo d d.size) wr hbd.out
      have HB2 := Lib.hid hb
      have HSH := Lib.hid hS
      have hs1 : w1.heap.size ≤ wr.heap.size := hb.size
      clear hb hbd hS
      go_wp2_with fail
      refine HSH.out.mono ?_
      rintro r w2 ⟨rfl, hst⟩
      have HB3 := Lib.hid (HB2.out.trans (hst.below hs1))
      clear hst
      go_wp2
      go_ret2
      exact ⟨rfl, HB.out.trans (HB3.out.mono HB.out.size)⟩

end Go.Proofs.Ytcmgfmpmapnckaa
