/- Walks of segment.Encode. Written by wip/regenc.py. -/
import Derived.Test.YtcmgfmpmapnckaaSgU
namespace Go.Proofs.Ytcmgfmpmapnckaa
open Go.RowKit
set_option linter.unusedVariables false
set_option linter.unusedSimpArgs false

theorem right_yes (proto : Int) (s : Seg) (w : World) (h : segRight proto s) :
    Calls Try.prog 13 #[.int .i64 proto, .agg s.cells] w fun e w' => e = .returned (.bool true) ∧ Foot (fun _ => False) w w' := by
  refine (right_any proto s w).mono ?_
  rintro e w' ⟨⟨r, rfl, hr⟩, hf⟩
  exact ⟨by rw [hr.2 h], hf⟩
theorem right_no (proto : Int) (s : Seg) (w : World) (h : ¬ segRight proto s) :
    Calls Try.prog 13 #[.int .i64 proto, .agg s.cells] w fun e w' => e = .returned (.bool false) ∧ Foot (fun _ => False) w w' := by
  refine (right_any proto s w).mono ?_
  rintro e w' ⟨⟨r, rfl, hr⟩, hf⟩
  cases r
  · exact ⟨rfl, hf⟩
  · exact absurd (hr.1 rfl) h

theorem cells7 {w : World} {b : Nat} {a0 a1 a2 a3 a4 a5 a6 : Value} {T : TypeId} {fr : Nat × Nat} (h : w.heap[b]? = some (.cells #[a0, a1, a2, a3, a4, a5, a6] T fr)) :
    w.cell? ⟨b, 0, none⟩ = some a0 ∧ w.cell? ⟨b, 1, none⟩ = some a1 ∧ w.cell? ⟨b, 2, none⟩ = some a2 ∧ w.cell? ⟨b, 3, none⟩ = some a3 ∧ w.cell? ⟨b, 4, none⟩ = some a4 ∧ w.cell? ⟨b, 5, none⟩ = some a5 ∧ w.cell? ⟨b, 6, none⟩ = some a6 :=
  ⟨(blk_cell h 0).trans rfl, (blk_cell h 1).trans rfl, (blk_cell h 2).trans rfl, (blk_cell h 3).trans rfl, (blk_cell h 4).trans rfl, (blk_cell h 5).trans rfl, (blk_cell h 6).trans rfl⟩

/-- The state behind so many calls of the Writer. -/
def EncSt (b : Nat) (l1 l2 l3 : List UInt8) (k : Nat) (w : World) : Prop :=
  b < w.heap.size ∧ (match k with | 0 => WrAt b w b [] | 1 => WrAt b w b l1 | 2 => WrAt b w b l2 | 3 => WrAt b w b l3 | _ => True)
theorem EncSt.alloc {b : Nat} {l1 l2 l3 : List UInt8} {k : Nat} {w : World} (h : EncSt b l1 l2 l3 k w) (o : Obj) : EncSt b l1 l2 l3 k (w.alloc o) := by
  obtain ⟨h1, h2⟩ := h
  refine ⟨by simp; omega, ?_⟩
  rcases k with _ | _ | _ | _ | k
  · exact WrAt.alloc h2 o
  · exact WrAt.alloc h2 o
  · exact WrAt.alloc h2 o
  · exact WrAt.alloc h2 o
  · exact trivial

theorem cat_one (s : ByteArray) : cat [s] = s.data.toList := by simp [cat]
theorem cat_two (s t : ByteArray) : cat [s, t] = s.data.toList ++ t.data.toList := by simp [cat]
theorem toList_size (s : ByteArray) : s.data.toList.length = s.size := Array.length_toList

/-- The check sum of bytes. -/
def ofSum (l : List UInt8) : Nat := 65535 - (putL8 (0, true) l).1

/-- What Encode makes of the bytes b, whose check sum stands at a place. -/
def withSum (src dst : Nat) (proto : Int) (bb : ByteArray) (at0 : Nat) : List UInt8 :=
  let n0 := ofSum (pseudo src dst proto bb.size ++ bb.data.toList)
  let n := if n0 = 0 ∧ proto = 17 then 65535 else n0
  (hd bb at0).data.toList ++ beAll 2 [n] ++ (tl bb (at0 + 2)).data.toList

def tcpBytes (sp dp seq ack fl wi : Nat) (data : ByteArray) : ByteArray := ⟨(beAll 2 [sp, dp] ++ beAll 4 [seq, ack] ++ beAll 2 [20480 + fl, wi, 0, 0] ++ data.data.toList).toArray⟩
def udpBytes (sp dp : Nat) (data : ByteArray) : ByteArray := ⟨(beAll 2 [sp, dp, 8 + data.size, 0] ++ data.data.toList).toArray⟩

theorem tcpBytes_size (sp dp seq ack fl wi : Nat) (data : ByteArray) : (tcpBytes sp dp seq ack fl wi data).size = 20 + data.size := by
  show (beAll 2 [sp, dp] ++ beAll 4 [seq, ack] ++ beAll 2 [20480 + fl, wi, 0, 0] ++ data.data.toList).toArray.size = _
  rw [List.size_toArray, List.length_append, List.length_append, List.length_append, beAll_length, beAll_length, beAll_length, toList_size]
  simp only [List.length_cons, List.length_nil]
theorem udpBytes_size (sp dp : Nat) (data : ByteArray) : (udpBytes sp dp data).size = 8 + data.size := by
  show (beAll 2 [sp, dp, 8 + data.size, 0] ++ data.data.toList).toArray.size = _
  rw [List.size_toArray, List.length_append, beAll_length, toList_size]
  simp only [List.length_cons, List.length_nil]

set_option maxHeartbeats 2000000 in
set_option maxRecDepth 100000 in
theorem encode_no (proto : Int) (src dst : Int) (s : Seg) (w : World) (h : ¬ segRight proto s) :
    Calls Try.prog 11 #[.int .i64 proto, .int .u32 src, .int .u32 dst, .agg s.cells] w fun e w' => e = .returned (.tuple #[.string ⟨#[]⟩, .int .i64 1]) ∧ Below w.heap.size w w' := by
  have hno := fun w => right_no proto s w h
  have HN := Lib.hid hno; clear hno h
  unfold Seg.cells at *
  go_enter Try.func11, Try.ntmps11
  go_wp2_with (go_at_call 13; (with_reducible refine (HN.out _).mono ?_); rintro e w1 ⟨rfl, hf⟩)
  go_ret2
  exact ⟨rfl, ((Below.refl _ _).alloc (Nat.le_refl _) _).trans ((Foot.below hf).mono (by simp))⟩

set_option maxHeartbeats 8000000 in
set_option maxRecDepth 100000 in
theorem encode_udp (sp dp : Nat) (data : ByteArray) (src dst : Nat) (w : World) (h1 : sp ≤ 65535) (h2 : dp ≤ 65535) (h3 : data.size ≤ 65507) (hsrc : src < 4294967296) (hdst : dst < 4294967296) :
    Calls Try.prog 11 #[.int .i64 17, .int .u32 src, .int .u32 dst, .agg #[.int .i64 (sp : Nat), .int .i64 (dp : Nat), .int .u32 0, .int .u32 0, .int .i64 0, .int .i64 0, .string data]] w fun e w' => e = .returned (.tuple #[.string ⟨(withSum src dst 17 (udpBytes sp dp data) 6).toArray⟩, .int .i64 0]) ∧ Below w.heap.size w w' := by
  have hyes := fun w => right_yes 17 ⟨(sp : Nat), (dp : Nat), (0 : Nat), (0 : Nat), (0 : Nat), (0 : Nat), data⟩ w ⟨⟨by simp, by simp only; omega⟩, ⟨by simp, by simp only; omega⟩, .inr ⟨rfl, rfl, rfl, rfl, rfl, h3⟩⟩
  unfold Seg.cells at hyes
  have htcp := fun w => tcp_any sp dp 0 0 0 0 data w h1 h2 h3 (by decide) (by decide) (by decide) (by decide)
  have hudp := fun w => udp_any sp dp (0 : Nat) (0 : Nat) (0 : Nat) (0 : Nat) data w h1 h2 h3
  simp only [show ((0 : Nat) : Int) = 0 from rfl] at hyes htcp hudp
  have hbb := udpBytes_size sp dp data
  have hdef : ⟨(beAll 2 [sp, dp, 8 + data.size, 0] ++ data.data.toList).toArray⟩ = udpBytes sp dp data := rfl
  rw [hdef] at hudp
  have HY := Lib.hid hyes; clear hyes
  have HT := Lib.hid htcp; clear htcp
  have HU := Lib.hid hudp; clear hudp
  have hwsum : Hid (withSum src dst 17 (udpBytes sp dp data) 6 = withSum src dst 17 (udpBytes sp dp data) 6) := rfl
  generalize hbbv : udpBytes sp dp data = bb at *
  have HB := Lib.hid hbbv; clear hbbv hdef
  have hbl : bb.size ≤ 65535 := by omega
  have hbl2 : 6 + 2 ≤ bb.size := by omega
  have HBS := Lib.hid hbb; clear hbb
  have hps := fun w => pseudo_any src dst 17 bb.size w hsrc hdst
  have HP := Lib.hid hps; clear hps
  have hb0 := blk_new w (.cells #[.int .i64 (sp : Nat), .int .i64 (dp : Nat), .int .u32 0, .int .u32 0, .int .i64 0, .int .i64 0, .string data] 24)
  have HB0 := Lib.hid hb0; clear hb0
  go_enter Try.func11, Try.ntmps11
  go_wp2_with (first | (go_at_call 13; (with_reducible refine (HY.out _).mono ?_); rintro e w1 ⟨rfl, hf1⟩; have hb1 := hf1.keep HB0.out id; obtain ⟨d0, d1, d2, d3, d4, d5, d6⟩ := cells7 hb1; have HB1 := Lib.hid hb1; clear hb1) | (go_at_call 40; (with_reducible refine (HT.out _).mono ?_); rintro e w2 ⟨rfl, hf2⟩; have hb2 := (hf2.block _ (blk_lt HB1.out)).trans HB1.out; obtain ⟨g0, g1, g2, g3, g4, g5, g6⟩ := cells7 hb2; clear hb2) | (go_at_call 41; (with_reducible refine (HU.out _).mono ?_); rintro e w3 ⟨rfl, hf3⟩) | (go_at_call 43; (with_reducible refine (HP.out _).mono ?_); rintro e w4 ⟨rfl, hf4⟩))
  have hbel : Below w.heap.size w w4 := ((Below.refl _ _).alloc (Nat.le_refl _) _).trans (((Foot.below hf1).mono (by simp)).trans ((hf2.mono (by have := hf1.size; simp at this; omega)).trans ((hf3.mono (by have := hf1.size; have := hf2.size; simp at *; omega)).trans (hf4.mono (by have := hf1.size; have := hf2.size; have := hf3.size; simp at *; omega)))))
  refine (of_any _ [⟨(pseudo src dst 17 bb.size).toArray⟩, bb] 2 2 _ rfl ?hstr (by decide) ?hszs).mono ?_
  case hstr => exact (blk_new _ _).trans (by simp)
  case hszs => intro s hs; simp only [List.mem_cons, List.not_mem_nil, or_false] at hs; rcases hs with rfl | rfl <;> unfold maxLen <;> first | omega | (rw [← toList_size]; simp [pseudo, beAll_length])
  rintro e w5 ⟨rfl, hf5⟩
  have hbel2 : Below w.heap.size w w5 := (hbel.alloc hbel.size _).trans ((Foot.below hf5).mono (by have := hbel.size; simp; omega))
  have en : 65535 - (putL8 (0, true) (cat [⟨(pseudo src dst 17 bb.size).toArray⟩, bb])).1 = ofSum (pseudo src dst 17 bb.size ++ bb.data.toList) := by rw [cat_two]; rfl
  rw [en]
  clear en hbel hf5
  have hn0 : ofSum (pseudo src dst 17 bb.size ++ bb.data.toList) ≤ 65535 := by unfold ofSum; omega
  have hws : Hid (withSum src dst 17 bb 6 = (hd bb 6).data.toList ++ beAll 2 [if ofSum (pseudo src dst 17 bb.size ++ bb.data.toList) = 0 ∧ (17 : Int) = 17 then 65535 else ofSum (pseudo src dst 17 bb.size ++ bb.data.toList)] ++ (tl bb (6 + 2)).data.toList) := rfl
  generalize ofSum (pseudo src dst 17 bb.size ++ bb.data.toList) = n0 at *
  by_cases hz : n0 = 0
  · subst hz
    go_wp2
    have hwr0 := WrAt.new w5
    have hbel3 : Below w.heap.size w (w5.alloc (.cells #[.bool false, .pointer none, .slice none 0 0] 103)) := hbel2.alloc hbel2.size _
    have hle := hbel2.size
    have hlt : w5.heap.size < (w5.alloc (.cells #[.bool false, .pointer none, .slice none 0 0] 103)).heap.size := by simp
    generalize w5.alloc (.cells #[.bool false, .pointer none, .slice none 0 0] 103) = w0 at *
    generalize w5.heap.size = b at *
    have hbase : ∀ w', WStep b b w0.drew w' → b ≤ w'.heap.size := fun w' h => by have := h.size; have : w0.drew.heap.size = w0.heap.size := rfl; omega
    have hx1 : (cat [hd bb 6]).length = 6 := by rw [cat_one, toList_size, hd_size _ _ (by omega)]
    have hx2 : (cat [tl bb (6 + 2)]).length = bb.size - (6 + 2) := by rw [cat_one, toList_size, tl_size]
    have hlen1 : ([] : List UInt8).length + (cat [hd bb 6]).length ≤ 1000000 := by rw [hx1]; simp
    have hlen2 : ([] ++ cat [hd bb 6]).length ≤ 1000000 := by rw [List.nil_append, hx1]; omega
    have hlen3 : (([] ++ cat [hd bb 6]) ++ beAll 2 [65535]).length + (cat [tl bb (6 + 2)]).length ≤ 1000000 := by rw [hx2, List.nil_append, List.length_append, hx1, beAll_length]; simp only [List.length_singleton]; omega
    have hlen4 : ((([] ++ cat [hd bb 6]) ++ beAll 2 [65535]) ++ cat [tl bb (6 + 2)]).length ≤ 65535 := by rw [List.length_append, hx2, List.nil_append, List.length_append, hx1, beAll_length]; simp only [List.length_singleton]; omega
    have HX1 := Lib.hid hx1; clear hx1
    have HX2 := Lib.hid hx2; clear hx2
    have hal : ∀ (k : Nat) w (o : Obj), (EncSt b ([] ++ cat [hd bb 6]) (([] ++ cat [hd bb 6]) ++ beAll 2 [65535]) ((([] ++ cat [hd bb 6]) ++ beAll 2 [65535]) ++ cat [tl bb (6 + 2)])) k w → (EncSt b ([] ++ cat [hd bb 6]) (([] ++ cat [hd bb 6]) ++ beAll 2 [65535]) ((([] ++ cat [hd bb 6]) ++ beAll 2 [65535]) ++ cat [tl bb (6 + 2)])) k (w.alloc o) := fun k w o h => h.alloc o
    have hst0 : b < w0.drew.heap.size ∧ WrAt b w0.drew b [] := ⟨hlt, hwr0⟩
    have hbl3 : (6 : Int) ≤ bb.size := by omega
    have hbl4 : (8 : Int) ≤ bb.size := by omega
    obtain ⟨out, hout⟩ : ∃ out : ByteArray, out = ⟨((([] ++ cat [hd bb 6]) ++ beAll 2 [65535]) ++ cat [tl bb (6 + 2)]).toArray⟩ := ⟨_, rfl⟩
    have HO := Lib.hid hout; clear hout
    refine wp_region_list (by kernel_rfl) [(some 47, []), (some 48, []), (some 49, []), (some 50, [1, 2]), (some 51, [3]), (some 52, [0, 4]), (some 53, []), (some 54, [6]), (some 55, [5, 7, 5]), (some 56, []), (some 57, []), (some 58, [10]), (some 59, [9, 11]), (some 60, [12]), (some 61, [8, 13, 8]), (some 62, [14, 14]), (some 63, [15]), (some 64, [15]), (some 8, [16, 15, 0, 1, 2, 3, 4, 5, 6, 7, 8, 9, 10, 11, 12, 13, 14, 15, 16, 17]), (some 9, [17, 18, 0, 1, 2, 3, 4, 5, 6, 7, 8, 9, 10, 11, 12, 13, 14, 15, 16, 17, 18])] [5, 8, 14, 15] 65 20 (WStep b b) (fun i v w => match i with | 0 => v = .pointer (some ⟨b, 0, none⟩) | 1 => v = .string bb | 2 => v = .int .i64 6 | 3 => v = .string (hd bb 6) | 4 => ∃ x, v = .slice (some ⟨x, 0, none⟩) 1 1 ∧ StrsAt w x [hd bb 6] ∧ x ≠ b | 5 => v = .pointer (some ⟨b, 0, none⟩) | 6 => v = .int .i64 65535 | 7 => ∃ x, v = .slice (some ⟨x, 0, none⟩) 1 1 ∧ IntsAt w x 3 .i64 [65535] ∧ x ≠ b | 8 => v = .pointer (some ⟨b, 0, none⟩) | 9 => v = .string bb | 10 => v = .int .i64 6 | 11 => v = .int .i64 8 | 12 => v = .string (tl bb (6 + 2)) | 13 => ∃ x, v = .slice (some ⟨x, 0, none⟩) 1 1 ∧ StrsAt w x [tl bb (6 + 2)] ∧ x ≠ b | 14 => v = .pointer (some ⟨b, 0, none⟩) | 15 => v = .tuple #[.string out, .int .i64 0] | 16 => v = .string out | 17 => v = .int .i64 0 | 18 => v = .string out | 19 => v = .int .i64 0 | _ => True) (EncSt b ([] ++ cat [hd bb 6]) (([] ++ cat [hd bb 6]) ++ beAll 2 [65535]) ((([] ++ cat [hd bb 6]) ++ beAll 2 [65535]) ++ cat [tl bb (6 + 2)])) (by kernel_rfl) rfl rfl (by kernel_rfl) (WStep.refl b b) (fun _ _ _ => WStep.trans) ?Hst ?hst ?howed ?hfin
    case Hst =>
      intro i v w w2 _ hH hR
      rcases i with _ | i
      · first | exact hH | (obtain ⟨x, h1, h2, h3⟩ := hH; exact ⟨x, h1, hR.keep h2 (by decide) h3, h3⟩)
      rcases i with _ | i
      · first | exact hH | (obtain ⟨x, h1, h2, h3⟩ := hH; exact ⟨x, h1, hR.keep h2 (by decide) h3, h3⟩)
      rcases i with _ | i
      · first | exact hH | (obtain ⟨x, h1, h2, h3⟩ := hH; exact ⟨x, h1, hR.keep h2 (by decide) h3, h3⟩)
      rcases i with _ | i
      · first | exact hH | (obtain ⟨x, h1, h2, h3⟩ := hH; exact ⟨x, h1, hR.keep h2 (by decide) h3, h3⟩)
      rcases i with _ | i
      · first | exact hH | (obtain ⟨x, h1, h2, h3⟩ := hH; exact ⟨x, h1, hR.keep h2 (by decide) h3, h3⟩)
      rcases i with _ | i
      · first | exact hH | (obtain ⟨x, h1, h2, h3⟩ := hH; exact ⟨x, h1, hR.keep h2 (by decide) h3, h3⟩)
      rcases i with _ | i
      · first | exact hH | (obtain ⟨x, h1, h2, h3⟩ := hH; exact ⟨x, h1, hR.keep h2 (by decide) h3, h3⟩)
      rcases i with _ | i
      · first | exact hH | (obtain ⟨x, h1, h2, h3⟩ := hH; exact ⟨x, h1, hR.keep h2 (by decide) h3, h3⟩)
      rcases i with _ | i
      · first | exact hH | (obtain ⟨x, h1, h2, h3⟩ := hH; exact ⟨x, h1, hR.keep h2 (by decide) h3, h3⟩)
      rcases i with _ | i
      · first | exact hH | (obtain ⟨x, h1, h2, h3⟩ := hH; exact ⟨x, h1, hR.keep h2 (by decide) h3, h3⟩)
      rcases i with _ | i
      · first | exact hH | (obtain ⟨x, h1, h2, h3⟩ := hH; exact ⟨x, h1, hR.keep h2 (by decide) h3, h3⟩)
      rcases i with _ | i
      · first | exact hH | (obtain ⟨x, h1, h2, h3⟩ := hH; exact ⟨x, h1, hR.keep h2 (by decide) h3, h3⟩)
      rcases i with _ | i
      · first | exact hH | (obtain ⟨x, h1, h2, h3⟩ := hH; exact ⟨x, h1, hR.keep h2 (by decide) h3, h3⟩)
      rcases i with _ | i
      · first | exact hH | (obtain ⟨x, h1, h2, h3⟩ := hH; exact ⟨x, h1, hR.keep h2 (by decide) h3, h3⟩)
      rcases i with _ | i
      · first | exact hH | (obtain ⟨x, h1, h2, h3⟩ := hH; exact ⟨x, h1, hR.keep h2 (by decide) h3, h3⟩)
      rcases i with _ | i
      · first | exact hH | (obtain ⟨x, h1, h2, h3⟩ := hH; exact ⟨x, h1, hR.keep h2 (by decide) h3, h3⟩)
      rcases i with _ | i
      · first | exact hH | (obtain ⟨x, h1, h2, h3⟩ := hH; exact ⟨x, h1, hR.keep h2 (by decide) h3, h3⟩)
      rcases i with _ | i
      · first | exact hH | (obtain ⟨x, h1, h2, h3⟩ := hH; exact ⟨x, h1, hR.keep h2 (by decide) h3, h3⟩)
      rcases i with _ | i
      · first | exact hH | (obtain ⟨x, h1, h2, h3⟩ := hH; exact ⟨x, h1, hR.keep h2 (by decide) h3, h3⟩)
      rcases i with _ | i
      · first | exact hH | (obtain ⟨x, h1, h2, h3⟩ := hH; exact ⟨x, h1, hR.keep h2 (by decide) h3, h3⟩)
      exact trivial
    case hst =>
      exact hst0
    case howed =>
      refine owed_cons (owed_cons (owed_cons (owed_cons (owed_cons (owed_cons (owed_cons (owed_cons (owed_cons (owed_cons (owed_cons (owed_cons (owed_cons (owed_cons (owed_cons (owed_cons (owed_cons (owed_cons (owed_cons (owed_cons (owed_nil _) ?_) ?_) ?_) ?_) ?_) ?_) ?_) ?_) ?_) ?_) ?_) ?_) ?_) ?_) ?_) ?_) ?_) ?_) ?_) ?_
      · intro a w vs k K hR hp hi hS s1 s2 s3 hK
        have e13 : a.tmps.getD 13 undef = .pointer (some ⟨b, 0, none⟩) := old_of hi (by kernel_rfl) rfl
        have e13_ := e13; rw [Array.getD_eq_getD_getElem?] at e13_
        clear hp hi s1 s2 s3
        refine wpOp_of rfl rfl ?_
        go_simp
        exact hK _ _ rfl ((WStep.refl b b) _) hS
      · intro a w vs k K hR hp hi hS s1 s2 s3 hK
        have e10 : a.tmps.getD 10 undef = .string bb := old_of hi (by kernel_rfl) rfl
        have e10_ := e10; rw [Array.getD_eq_getD_getElem?] at e10_
        clear hp hi s1 s2 s3
        refine wpOp_of rfl rfl ?_
        go_simp
        exact hK _ _ rfl ((WStep.refl b b) _) hS
      · intro a w vs k K hR hp hi hS s1 s2 s3 hK
        have e11 : a.tmps.getD 11 undef = .int .i64 6 := old_of hi (by kernel_rfl) rfl
        have e11_ := e11; rw [Array.getD_eq_getD_getElem?] at e11_
        clear hp hi s1 s2 s3
        refine wpOp_of rfl rfl ?_
        go_simp
        exact hK _ _ rfl ((WStep.refl b b) _) hS
      · intro a w vs k K hR hp hi hS s1 s2 s3 hK
        have e48 : a.tmps.getD 48 undef = .string bb := ((hp 1 (by decide)).2 48 rfl).trans (hp 1 (by decide)).1
        have e49 : a.tmps.getD 49 undef = .int .i64 6 := ((hp 2 (by decide)).2 49 rfl).trans (hp 2 (by decide)).1
        have e48_ := e48; rw [Array.getD_eq_getD_getElem?] at e48_
        have e49_ := e49; rw [Array.getD_eq_getD_getElem?] at e49_
        clear hp hi s1 s2 s3
        refine wpOp_of rfl rfl ?_
        go_simp
        exact hK _ _ rfl (WStep.refl _ _ _) hS
      · intro a w vs k K hR hp hi hS s1 s2 s3 hK
        have e50 : a.tmps.getD 50 undef = .string (hd bb 6) := ((hp 3 (by decide)).2 50 rfl).trans (hp 3 (by decide)).1
        have e50_ := e50; rw [Array.getD_eq_getD_getElem?] at e50_
        clear hp hi s1 s2 s3
        refine wpOp_of rfl rfl ?_
        go_simp
        refine hK _ _ ⟨_, rfl, ?_, ?_⟩ ((WStep.refl _ _ _).alloc _) (hal k w _ hS)
        · first | (unfold IntsAt; rw [blk_new]; simp; done) | (unfold StrsAt; rw [blk_new]; simp; done)
        · have := hS.1; omega
      · intro a w vs k K hR hp hi hS s1 s2 s3 hK
        have e47 : a.tmps.getD 47 undef = .pointer (some ⟨b, 0, none⟩) := ((hp 0 (by decide)).2 47 rfl).trans (hp 0 (by decide)).1
        have e51 : a.tmps.getD 51 undef = vs 4 := (hp 4 (by decide)).2 51 rfl
        have h4 := (hp 4 (by decide)).1
        obtain ⟨x, hv, hx, hxb⟩ := h4
        rw [hv] at e51
        obtain rfl := s1 0 (by decide) rfl
        have e47_ := e47; rw [Array.getD_eq_getD_getElem?] at e47_
        have e51_ := e51; rw [Array.getD_eq_getD_getElem?] at e51_
        clear hp hi s1 s2 s3
        refine wpOp_of rfl rfl ?_
        go_simp
        refine (text_w b b x [] [hd bb 6] 1 1 w rfl hS.2 hx (by simp) hlen1 (hbase w hR)).mono ?_
        rintro e w1 ⟨rfl, hw1, hs1⟩
        exact hK _ _ rfl hs1 ⟨by have := hs1.size; have := hS.1; omega, hw1⟩
      · intro a w vs k K hR hp hi hS s1 s2 s3 hK
        have e12 : a.tmps.getD 12 undef = .int .i64 65535 := old_of hi (by kernel_rfl) rfl
        have e12_ := e12; rw [Array.getD_eq_getD_getElem?] at e12_
        clear hp hi s1 s2 s3
        refine wpOp_of rfl rfl ?_
        go_simp
        exact hK _ _ rfl ((WStep.refl b b) _) hS
      · intro a w vs k K hR hp hi hS s1 s2 s3 hK
        have e53 : a.tmps.getD 53 undef = .int .i64 65535 := ((hp 6 (by decide)).2 53 rfl).trans (hp 6 (by decide)).1
        have e53_ := e53; rw [Array.getD_eq_getD_getElem?] at e53_
        clear hp hi s1 s2 s3
        refine wpOp_of rfl rfl ?_
        go_simp
        refine hK _ _ ⟨_, rfl, ?_, ?_⟩ ((WStep.refl _ _ _).alloc _) (hal k w _ hS)
        · first | (unfold IntsAt; rw [blk_new]; simp; done) | (unfold StrsAt; rw [blk_new]; simp; done)
        · have := hS.1; omega
      · intro a w vs k K hR hp hi hS s1 s2 s3 hK
        have e52 : a.tmps.getD 52 undef = .pointer (some ⟨b, 0, none⟩) := ((hp 5 (by decide)).2 52 rfl).trans (hp 5 (by decide)).1
        have e54 : a.tmps.getD 54 undef = vs 7 := (hp 7 (by decide)).2 54 rfl
        have h7 := (hp 7 (by decide)).1
        obtain ⟨x, hv, hx, hxb⟩ := h7
        rw [hv] at e54
        obtain rfl := s1 1 (by decide) rfl
        have e52_ := e52; rw [Array.getD_eq_getD_getElem?] at e52_
        have e54_ := e54; rw [Array.getD_eq_getD_getElem?] at e54_
        clear hp hi s1 s2 s3
        refine wpOp_of rfl rfl ?_
        go_simp
        refine (short_w b b x _ [65535] 1 1 w rfl hS.2 hx (by simp) (by intro z hz; simp at hz; omega) hlen2 (hbase w hR)).mono ?_
        rintro e w1 ⟨rfl, hw1, hs1⟩
        exact hK _ _ rfl hs1 ⟨by have := hs1.size; have := hS.1; omega, hw1⟩
      · intro a w vs k K hR hp hi hS s1 s2 s3 hK
        have e10 : a.tmps.getD 10 undef = .string bb := old_of hi (by kernel_rfl) rfl
        have e10_ := e10; rw [Array.getD_eq_getD_getElem?] at e10_
        clear hp hi s1 s2 s3
        refine wpOp_of rfl rfl ?_
        go_simp
        exact hK _ _ rfl ((WStep.refl b b) _) hS
      · intro a w vs k K hR hp hi hS s1 s2 s3 hK
        have e11 : a.tmps.getD 11 undef = .int .i64 6 := old_of hi (by kernel_rfl) rfl
        have e11_ := e11; rw [Array.getD_eq_getD_getElem?] at e11_
        clear hp hi s1 s2 s3
        refine wpOp_of rfl rfl ?_
        go_simp
        exact hK _ _ rfl ((WStep.refl b b) _) hS
      · intro a w vs k K hR hp hi hS s1 s2 s3 hK
        have e57 : a.tmps.getD 57 undef = .int .i64 6 := ((hp 10 (by decide)).2 57 rfl).trans (hp 10 (by decide)).1
        have e57_ := e57; rw [Array.getD_eq_getD_getElem?] at e57_
        clear hp hi s1 s2 s3
        refine wpOp_of rfl rfl ?_
        go_simp
        first | exact hK _ _ rfl (WStep.refl _ _ _) hS | exact hK _ _ (congrArg (Value.int .i64) (by omega)) (WStep.refl _ _ _) hS
      · intro a w vs k K hR hp hi hS s1 s2 s3 hK
        have e56 : a.tmps.getD 56 undef = .string bb := ((hp 9 (by decide)).2 56 rfl).trans (hp 9 (by decide)).1
        have e58 : a.tmps.getD 58 undef = .int .i64 8 := ((hp 11 (by decide)).2 58 rfl).trans (hp 11 (by decide)).1
        have e56_ := e56; rw [Array.getD_eq_getD_getElem?] at e56_
        have e58_ := e58; rw [Array.getD_eq_getD_getElem?] at e58_
        clear hp hi s1 s2 s3
        refine wpOp_of rfl rfl ?_
        go_simp
        exact hK _ _ rfl (WStep.refl _ _ _) hS
      · intro a w vs k K hR hp hi hS s1 s2 s3 hK
        have e59 : a.tmps.getD 59 undef = .string (tl bb (6 + 2)) := ((hp 12 (by decide)).2 59 rfl).trans (hp 12 (by decide)).1
        have e59_ := e59; rw [Array.getD_eq_getD_getElem?] at e59_
        clear hp hi s1 s2 s3
        refine wpOp_of rfl rfl ?_
        go_simp
        refine hK _ _ ⟨_, rfl, ?_, ?_⟩ ((WStep.refl _ _ _).alloc _) (hal k w _ hS)
        · first | (unfold IntsAt; rw [blk_new]; simp; done) | (unfold StrsAt; rw [blk_new]; simp; done)
        · have := hS.1; omega
      · intro a w vs k K hR hp hi hS s1 s2 s3 hK
        have e55 : a.tmps.getD 55 undef = .pointer (some ⟨b, 0, none⟩) := ((hp 8 (by decide)).2 55 rfl).trans (hp 8 (by decide)).1
        have e60 : a.tmps.getD 60 undef = vs 13 := (hp 13 (by decide)).2 60 rfl
        have h13 := (hp 13 (by decide)).1
        obtain ⟨x, hv, hx, hxb⟩ := h13
        rw [hv] at e60
        obtain rfl := s1 2 (by decide) rfl
        have e55_ := e55; rw [Array.getD_eq_getD_getElem?] at e55_
        have e60_ := e60; rw [Array.getD_eq_getD_getElem?] at e60_
        clear hp hi s1 s2 s3
        refine wpOp_of rfl rfl ?_
        go_simp
        refine (text_w b b x _ [tl bb (6 + 2)] 1 1 w rfl hS.2 hx (by simp) hlen3 (hbase w hR)).mono ?_
        rintro e w1 ⟨rfl, hw1, hs1⟩
        exact hK _ _ rfl hs1 ⟨by have := hs1.size; have := hS.1; omega, hw1⟩
      · intro a w vs k K hR hp hi hS s1 s2 s3 hK
        have e61 : a.tmps.getD 61 undef = .pointer (some ⟨b, 0, none⟩) := ((hp 14 (by decide)).2 61 rfl).trans (hp 14 (by decide)).1
        obtain rfl := s1 3 (by decide) rfl
        have e61_ := e61; rw [Array.getD_eq_getD_getElem?] at e61_
        clear hp hi s1 s2 s3
        refine wpOp_of rfl rfl ?_
        go_simp
        refine (done_w b b _ w hS.2 hlen4).mono ?_
        rintro e w1 ⟨rfl, hs1⟩
        rw [← HO.out]
        exact hK _ _ rfl hs1 ⟨by have := hs1.size; have := hS.1; omega, trivial⟩
      · intro a w vs k K hR hp hi hS s1 s2 s3 hK
        have e62 : a.tmps.getD 62 undef = .tuple #[.string out, .int .i64 0] := ((hp 15 (by decide)).2 62 rfl).trans (hp 15 (by decide)).1
        have e62_ := e62; rw [Array.getD_eq_getD_getElem?] at e62_
        clear hp hi s1 s2 s3
        refine wpOp_of rfl rfl ?_
        go_simp
        exact hK _ _ rfl ((WStep.refl b b) _) hS
      · intro a w vs k K hR hp hi hS s1 s2 s3 hK
        have e62 : a.tmps.getD 62 undef = .tuple #[.string out, .int .i64 0] := ((hp 15 (by decide)).2 62 rfl).trans (hp 15 (by decide)).1
        have e62_ := e62; rw [Array.getD_eq_getD_getElem?] at e62_
        clear hp hi s1 s2 s3
        refine wpOp_of rfl rfl ?_
        go_simp
        exact hK _ _ rfl ((WStep.refl b b) _) hS
      · intro a w vs k K hR hp hi hS s1 s2 s3 hK
        have e63 : a.tmps.getD 63 undef = .string out := ((hp 16 (by decide)).2 63 rfl).trans (hp 16 (by decide)).1
        have e63_ := e63; rw [Array.getD_eq_getD_getElem?] at e63_
        clear hp hi s1 s2 s3
        refine wpOp_of rfl rfl ?_
        go_simp
        exact hK _ _ rfl ((WStep.refl b b) _) hS
      · intro a w vs k K hR hp hi hS s1 s2 s3 hK
        have e64 : a.tmps.getD 64 undef = .int .i64 0 := ((hp 17 (by decide)).2 64 rfl).trans (hp 17 (by decide)).1
        have e64_ := e64; rw [Array.getD_eq_getD_getElem?] at e64_
        clear hp hi s1 s2 s3
        refine wpOp_of rfl rfl ?_
        go_simp
        exact hK _ _ rfl ((WStep.refl b b) _) hS
    case hfin =>
      intro vs w5 hR5 hH hS5
      have q0 : vs 0 = .pointer (some ⟨b, 0, none⟩) := hH 0 (by decide)
      have q1 : vs 1 = .string bb := hH 1 (by decide)
      have q2 : vs 2 = .int .i64 6 := hH 2 (by decide)
      have q3 : vs 3 = .string (hd bb 6) := hH 3 (by decide)
      have q5 : vs 5 = .pointer (some ⟨b, 0, none⟩) := hH 5 (by decide)
      have q6 : vs 6 = .int .i64 65535 := hH 6 (by decide)
      have q8 : vs 8 = .pointer (some ⟨b, 0, none⟩) := hH 8 (by decide)
      have q9 : vs 9 = .string bb := hH 9 (by decide)
      have q10 : vs 10 = .int .i64 6 := hH 10 (by decide)
      have q11 : vs 11 = .int .i64 8 := hH 11 (by decide)
      have q12 : vs 12 = .string (tl bb (6 + 2)) := hH 12 (by decide)
      have q14 : vs 14 = .pointer (some ⟨b, 0, none⟩) := hH 14 (by decide)
      have q15 : vs 15 = .tuple #[.string out, .int .i64 0] := hH 15 (by decide)
      have q16 : vs 16 = .string out := hH 16 (by decide)
      have q17 : vs 17 = .int .i64 0 := hH 17 (by decide)
      have q18 : vs 18 = .string out := hH 18 (by decide)
      have q19 : vs 19 = .int .i64 0 := hH 19 (by decide)
      clear hH
      simp only [putL, Act.put, List.setIfInBounds_toArray, List.set_cons_zero, List.set_cons_succ, q0, q1, q2, q3, q5, q6, q8, q9, q10, q11, q12, q14, q15, q16, q17, q18, q19]
      clear q0 q1 q2 q3 q5 q6 q8 q9 q10 q11 q12 q14 q15 q16 q17 q18 q19
      go_wp2
      go_ret2
      refine ⟨?_, hbel3.trans ((Below.drew (Below.refl _ w0)).trans ((hR5.below (Nat.le_of_lt hlt)).mono hle))⟩
      rw [hws.out]
      have ho := HO.out
      show Ending.returned (.tuple #[.string out, .int .i64 0]) = _
      rw [ho]
      simp [cat_one]
      done
  · have hz1 : ((n0 : Int) == 0) = false := by simp; omega
    go_wp2
    have hwr0 := WrAt.new w5
    have hbel3 : Below w.heap.size w (w5.alloc (.cells #[.bool false, .pointer none, .slice none 0 0] 103)) := hbel2.alloc hbel2.size _
    have hle := hbel2.size
    have hlt : w5.heap.size < (w5.alloc (.cells #[.bool false, .pointer none, .slice none 0 0] 103)).heap.size := by simp
    generalize w5.alloc (.cells #[.bool false, .pointer none, .slice none 0 0] 103) = w0 at *
    generalize w5.heap.size = b at *
    have hbase : ∀ w', WStep b b w0.drew w' → b ≤ w'.heap.size := fun w' h => by have := h.size; have : w0.drew.heap.size = w0.heap.size := rfl; omega
    have hx1 : (cat [hd bb 6]).length = 6 := by rw [cat_one, toList_size, hd_size _ _ (by omega)]
    have hx2 : (cat [tl bb (6 + 2)]).length = bb.size - (6 + 2) := by rw [cat_one, toList_size, tl_size]
    have hlen1 : ([] : List UInt8).length + (cat [hd bb 6]).length ≤ 1000000 := by rw [hx1]; simp
    have hlen2 : ([] ++ cat [hd bb 6]).length ≤ 1000000 := by rw [List.nil_append, hx1]; omega
    have hlen3 : (([] ++ cat [hd bb 6]) ++ beAll 2 [n0]).length + (cat [tl bb (6 + 2)]).length ≤ 1000000 := by rw [hx2, List.nil_append, List.length_append, hx1, beAll_length]; simp only [List.length_singleton]; omega
    have hlen4 : ((([] ++ cat [hd bb 6]) ++ beAll 2 [n0]) ++ cat [tl bb (6 + 2)]).length ≤ 65535 := by rw [List.length_append, hx2, List.nil_append, List.length_append, hx1, beAll_length]; simp only [List.length_singleton]; omega
    have HX1 := Lib.hid hx1; clear hx1
    have HX2 := Lib.hid hx2; clear hx2
    have hal : ∀ (k : Nat) w (o : Obj), (EncSt b ([] ++ cat [hd bb 6]) (([] ++ cat [hd bb 6]) ++ beAll 2 [n0]) ((([] ++ cat [hd bb 6]) ++ beAll 2 [n0]) ++ cat [tl bb (6 + 2)])) k w → (EncSt b ([] ++ cat [hd bb 6]) (([] ++ cat [hd bb 6]) ++ beAll 2 [n0]) ((([] ++ cat [hd bb 6]) ++ beAll 2 [n0]) ++ cat [tl bb (6 + 2)])) k (w.alloc o) := fun k w o h => h.alloc o
    have hst0 : b < w0.drew.heap.size ∧ WrAt b w0.drew b [] := ⟨hlt, hwr0⟩
    have hbl3 : (6 : Int) ≤ bb.size := by omega
    have hbl4 : (8 : Int) ≤ bb.size := by omega
    obtain ⟨out, hout⟩ : ∃ out : ByteArray, out = ⟨((([] ++ cat [hd bb 6]) ++ beAll 2 [n0]) ++ cat [tl bb (6 + 2)]).toArray⟩ := ⟨_, rfl⟩
    have HO := Lib.hid hout; clear hout
    refine wp_region_list (by kernel_rfl) [(some 47, []), (some 48, []), (some 49, []), (some 50, [1, 2]), (some 51, [3]), (some 52, [0, 4]), (some 53, []), (some 54, [6]), (some 55, [5, 7, 5]), (some 56, []), (some 57, []), (some 58, [10]), (some 59, [9, 11]), (some 60, [12]), (some 61, [8, 13, 8]), (some 62, [14, 14]), (some 63, [15]), (some 64, [15]), (some 8, [16, 15, 0, 1, 2, 3, 4, 5, 6, 7, 8, 9, 10, 11, 12, 13, 14, 15, 16, 17]), (some 9, [17, 18, 0, 1, 2, 3, 4, 5, 6, 7, 8, 9, 10, 11, 12, 13, 14, 15, 16, 17, 18])] [5, 8, 14, 15] 65 20 (WStep b b) (fun i v w => match i with | 0 => v = .pointer (some ⟨b, 0, none⟩) | 1 => v = .string bb | 2 => v = .int .i64 6 | 3 => v = .string (hd bb 6) | 4 => ∃ x, v = .slice (some ⟨x, 0, none⟩) 1 1 ∧ StrsAt w x [hd bb 6] ∧ x ≠ b | 5 => v = .pointer (some ⟨b, 0, none⟩) | 6 => v = .int .i64 (n0 : Nat) | 7 => ∃ x, v = .slice (some ⟨x, 0, none⟩) 1 1 ∧ IntsAt w x 3 .i64 [n0] ∧ x ≠ b | 8 => v = .pointer (some ⟨b, 0, none⟩) | 9 => v = .string bb | 10 => v = .int .i64 6 | 11 => v = .int .i64 8 | 12 => v = .string (tl bb (6 + 2)) | 13 => ∃ x, v = .slice (some ⟨x, 0, none⟩) 1 1 ∧ StrsAt w x [tl bb (6 + 2)] ∧ x ≠ b | 14 => v = .pointer (some ⟨b, 0, none⟩) | 15 => v = .tuple #[.string out, .int .i64 0] | 16 => v = .string out | 17 => v = .int .i64 0 | 18 => v = .string out | 19 => v = .int .i64 0 | _ => True) (EncSt b ([] ++ cat [hd bb 6]) (([] ++ cat [hd bb 6]) ++ beAll 2 [n0]) ((([] ++ cat [hd bb 6]) ++ beAll 2 [n0]) ++ cat [tl bb (6 + 2)])) (by kernel_rfl) rfl rfl (by kernel_rfl) (WStep.refl b b) (fun _ _ _ => WStep.trans) ?Hst ?hst ?howed ?hfin
    case Hst =>
      intro i v w w2 _ hH hR
      rcases i with _ | i
      · first | exact hH | (obtain ⟨x, h1, h2, h3⟩ := hH; exact ⟨x, h1, hR.keep h2 (by decide) h3, h3⟩)
      rcases i with _ | i
      · first | exact hH | (obtain ⟨x, h1, h2, h3⟩ := hH; exact ⟨x, h1, hR.keep h2 (by decide) h3, h3⟩)
      rcases i with _ | i
      · first | exact hH | (obtain ⟨x, h1, h2, h3⟩ := hH; exact ⟨x, h1, hR.keep h2 (by decide) h3, h3⟩)
      rcases i with _ | i
      · first | exact hH | (obtain ⟨x, h1, h2, h3⟩ := hH; exact ⟨x, h1, hR.keep h2 (by decide) h3, h3⟩)
      rcases i with _ | i
      · first | exact hH | (obtain ⟨x, h1, h2, h3⟩ := hH; exact ⟨x, h1, hR.keep h2 (by decide) h3, h3⟩)
      rcases i with _ | i
      · first | exact hH | (obtain ⟨x, h1, h2, h3⟩ := hH; exact ⟨x, h1, hR.keep h2 (by decide) h3, h3⟩)
      rcases i with _ | i
      · first | exact hH | (obtain ⟨x, h1, h2, h3⟩ := hH; exact ⟨x, h1, hR.keep h2 (by decide) h3, h3⟩)
      rcases i with _ | i
      · first | exact hH | (obtain ⟨x, h1, h2, h3⟩ := hH; exact ⟨x, h1, hR.keep h2 (by decide) h3, h3⟩)
      rcases i with _ | i
      · first | exact hH | (obtain ⟨x, h1, h2, h3⟩ := hH; exact ⟨x, h1, hR.keep h2 (by decide) h3, h3⟩)
      rcases i with _ | i
      · first | exact hH | (obtain ⟨x, h1, h2, h3⟩ := hH; exact ⟨x, h1, hR.keep h2 (by decide) h3, h3⟩)
      rcases i with _ | i
      · first | exact hH | (obtain ⟨x, h1, h2, h3⟩ := hH; exact ⟨x, h1, hR.keep h2 (by decide) h3, h3⟩)
      rcases i with _ | i
      · first | exact hH | (obtain ⟨x, h1, h2, h3⟩ := hH; exact ⟨x, h1, hR.keep h2 (by decide) h3, h3⟩)
      rcases i with _ | i
      · first | exact hH | (obtain ⟨x, h1, h2, h3⟩ := hH; exact ⟨x, h1, hR.keep h2 (by decide) h3, h3⟩)
      rcases i with _ | i
      · first | exact hH | (obtain ⟨x, h1, h2, h3⟩ := hH; exact ⟨x, h1, hR.keep h2 (by decide) h3, h3⟩)
      rcases i with _ | i
      · first | exact hH | (obtain ⟨x, h1, h2, h3⟩ := hH; exact ⟨x, h1, hR.keep h2 (by decide) h3, h3⟩)
      rcases i with _ | i
      · first | exact hH | (obtain ⟨x, h1, h2, h3⟩ := hH; exact ⟨x, h1, hR.keep h2 (by decide) h3, h3⟩)
      rcases i with _ | i
      · first | exact hH | (obtain ⟨x, h1, h2, h3⟩ := hH; exact ⟨x, h1, hR.keep h2 (by decide) h3, h3⟩)
      rcases i with _ | i
      · first | exact hH | (obtain ⟨x, h1, h2, h3⟩ := hH; exact ⟨x, h1, hR.keep h2 (by decide) h3, h3⟩)
      rcases i with _ | i
      · first | exact hH | (obtain ⟨x, h1, h2, h3⟩ := hH; exact ⟨x, h1, hR.keep h2 (by decide) h3, h3⟩)
      rcases i with _ | i
      · first | exact hH | (obtain ⟨x, h1, h2, h3⟩ := hH; exact ⟨x, h1, hR.keep h2 (by decide) h3, h3⟩)
      exact trivial
    case hst =>
      exact hst0
    case howed =>
      refine owed_cons (owed_cons (owed_cons (owed_cons (owed_cons (owed_cons (owed_cons (owed_cons (owed_cons (owed_cons (owed_cons (owed_cons (owed_cons (owed_cons (owed_cons (owed_cons (owed_cons (owed_cons (owed_cons (owed_cons (owed_nil _) ?_) ?_) ?_) ?_) ?_) ?_) ?_) ?_) ?_) ?_) ?_) ?_) ?_) ?_) ?_) ?_) ?_) ?_) ?_) ?_
      · intro a w vs k K hR hp hi hS s1 s2 s3 hK
        have e13 : a.tmps.getD 13 undef = .pointer (some ⟨b, 0, none⟩) := old_of hi (by kernel_rfl) rfl
        have e13_ := e13; rw [Array.getD_eq_getD_getElem?] at e13_
        clear hp hi s1 s2 s3
        refine wpOp_of rfl rfl ?_
        go_simp
        exact hK _ _ rfl ((WStep.refl b b) _) hS
      · intro a w vs k K hR hp hi hS s1 s2 s3 hK
        have e10 : a.tmps.getD 10 undef = .string bb := old_of hi (by kernel_rfl) rfl
        have e10_ := e10; rw [Array.getD_eq_getD_getElem?] at e10_
        clear hp hi s1 s2 s3
        refine wpOp_of rfl rfl ?_
        go_simp
        exact hK _ _ rfl ((WStep.refl b b) _) hS
      · intro a w vs k K hR hp hi hS s1 s2 s3 hK
        have e11 : a.tmps.getD 11 undef = .int .i64 6 := old_of hi (by kernel_rfl) rfl
        have e11_ := e11; rw [Array.getD_eq_getD_getElem?] at e11_
        clear hp hi s1 s2 s3
        refine wpOp_of rfl rfl ?_
        go_simp
        exact hK _ _ rfl ((WStep.refl b b) _) hS
      · intro a w vs k K hR hp hi hS s1 s2 s3 hK
        have e48 : a.tmps.getD 48 undef = .string bb := ((hp 1 (by decide)).2 48 rfl).trans (hp 1 (by decide)).1
        have e49 : a.tmps.getD 49 undef = .int .i64 6 := ((hp 2 (by decide)).2 49 rfl).trans (hp 2 (by decide)).1
        have e48_ := e48; rw [Array.getD_eq_getD_getElem?] at e48_
        have e49_ := e49; rw [Array.getD_eq_getD_getElem?] at e49_
        clear hp hi s1 s2 s3
        refine wpOp_of rfl rfl ?_
        go_simp
        exact hK _ _ rfl (WStep.refl _ _ _) hS
      · intro a w vs k K hR hp hi hS s1 s2 s3 hK
        have e50 : a.tmps.getD 50 undef = .string (hd bb 6) := ((hp 3 (by decide)).2 50 rfl).trans (hp 3 (by decide)).1
        have e50_ := e50; rw [Array.getD_eq_getD_getElem?] at e50_
        clear hp hi s1 s2 s3
        refine wpOp_of rfl rfl ?_
        go_simp
        refine hK _ _ ⟨_, rfl, ?_, ?_⟩ ((WStep.refl _ _ _).alloc _) (hal k w _ hS)
        · first | (unfold IntsAt; rw [blk_new]; simp; done) | (unfold StrsAt; rw [blk_new]; simp; done)
        · have := hS.1; omega
      · intro a w vs k K hR hp hi hS s1 s2 s3 hK
        have e47 : a.tmps.getD 47 undef = .pointer (some ⟨b, 0, none⟩) := ((hp 0 (by decide)).2 47 rfl).trans (hp 0 (by decide)).1
        have e51 : a.tmps.getD 51 undef = vs 4 := (hp 4 (by decide)).2 51 rfl
        have h4 := (hp 4 (by decide)).1
        obtain ⟨x, hv, hx, hxb⟩ := h4
        rw [hv] at e51
        obtain rfl := s1 0 (by decide) rfl
        have e47_ := e47; rw [Array.getD_eq_getD_getElem?] at e47_
        have e51_ := e51; rw [Array.getD_eq_getD_getElem?] at e51_
        clear hp hi s1 s2 s3
        refine wpOp_of rfl rfl ?_
        go_simp
        refine (text_w b b x [] [hd bb 6] 1 1 w rfl hS.2 hx (by simp) hlen1 (hbase w hR)).mono ?_
        rintro e w1 ⟨rfl, hw1, hs1⟩
        exact hK _ _ rfl hs1 ⟨by have := hs1.size; have := hS.1; omega, hw1⟩
      · intro a w vs k K hR hp hi hS s1 s2 s3 hK
        have e12 : a.tmps.getD 12 undef = .int .i64 (n0 : Nat) := old_of hi (by kernel_rfl) rfl
        have e12_ := e12; rw [Array.getD_eq_getD_getElem?] at e12_
        clear hp hi s1 s2 s3
        refine wpOp_of rfl rfl ?_
        go_simp
        exact hK _ _ rfl ((WStep.refl b b) _) hS
      · intro a w vs k K hR hp hi hS s1 s2 s3 hK
        have e53 : a.tmps.getD 53 undef = .int .i64 (n0 : Nat) := ((hp 6 (by decide)).2 53 rfl).trans (hp 6 (by decide)).1
        have e53_ := e53; rw [Array.getD_eq_getD_getElem?] at e53_
        clear hp hi s1 s2 s3
        refine wpOp_of rfl rfl ?_
        go_simp
        refine hK _ _ ⟨_, rfl, ?_, ?_⟩ ((WStep.refl _ _ _).alloc _) (hal k w _ hS)
        · first | (unfold IntsAt; rw [blk_new]; simp; done) | (unfold StrsAt; rw [blk_new]; simp; done)
        · have := hS.1; omega
      · intro a w vs k K hR hp hi hS s1 s2 s3 hK
        have e52 : a.tmps.getD 52 undef = .pointer (some ⟨b, 0, none⟩) := ((hp 5 (by decide)).2 52 rfl).trans (hp 5 (by decide)).1
        have e54 : a.tmps.getD 54 undef = vs 7 := (hp 7 (by decide)).2 54 rfl
        have h7 := (hp 7 (by decide)).1
        obtain ⟨x, hv, hx, hxb⟩ := h7
        rw [hv] at e54
        obtain rfl := s1 1 (by decide) rfl
        have e52_ := e52; rw [Array.getD_eq_getD_getElem?] at e52_
        have e54_ := e54; rw [Array.getD_eq_getD_getElem?] at e54_
        clear hp hi s1 s2 s3
        refine wpOp_of rfl rfl ?_
        go_simp
        refine (short_w b b x _ [n0] 1 1 w rfl hS.2 hx (by simp) (by intro z hz; simp at hz; omega) hlen2 (hbase w hR)).mono ?_
        rintro e w1 ⟨rfl, hw1, hs1⟩
        exact hK _ _ rfl hs1 ⟨by have := hs1.size; have := hS.1; omega, hw1⟩
      · intro a w vs k K hR hp hi hS s1 s2 s3 hK
        have e10 : a.tmps.getD 10 undef = .string bb := old_of hi (by kernel_rfl) rfl
        have e10_ := e10; rw [Array.getD_eq_getD_getElem?] at e10_
        clear hp hi s1 s2 s3
        refine wpOp_of rfl rfl ?_
        go_simp
        exact hK _ _ rfl ((WStep.refl b b) _) hS
      · intro a w vs k K hR hp hi hS s1 s2 s3 hK
        have e11 : a.tmps.getD 11 undef = .int .i64 6 := old_of hi (by kernel_rfl) rfl
        have e11_ := e11; rw [Array.getD_eq_getD_getElem?] at e11_
        clear hp hi s1 s2 s3
        refine wpOp_of rfl rfl ?_
        go_simp
        exact hK _ _ rfl ((WStep.refl b b) _) hS
      · intro a w vs k K hR hp hi hS s1 s2 s3 hK
        have e57 : a.tmps.getD 57 undef = .int .i64 6 := ((hp 10 (by decide)).2 57 rfl).trans (hp 10 (by decide)).1
        have e57_ := e57; rw [Array.getD_eq_getD_getElem?] at e57_
        clear hp hi s1 s2 s3
        refine wpOp_of rfl rfl ?_
        go_simp
        first | exact hK _ _ rfl (WStep.refl _ _ _) hS | exact hK _ _ (congrArg (Value.int .i64) (by omega)) (WStep.refl _ _ _) hS
      · intro a w vs k K hR hp hi hS s1 s2 s3 hK
        have e56 : a.tmps.getD 56 undef = .string bb := ((hp 9 (by decide)).2 56 rfl).trans (hp 9 (by decide)).1
        have e58 : a.tmps.getD 58 undef = .int .i64 8 := ((hp 11 (by decide)).2 58 rfl).trans (hp 11 (by decide)).1
        have e56_ := e56; rw [Array.getD_eq_getD_getElem?] at e56_
        have e58_ := e58; rw [Array.getD_eq_getD_getElem?] at e58_
        clear hp hi s1 s2 s3
        refine wpOp_of rfl rfl ?_
        go_simp
        exact hK _ _ rfl (WStep.refl _ _ _) hS
      · intro a w vs k K hR hp hi hS s1 s2 s3 hK
        have e59 : a.tmps.getD 59 undef = .string (tl bb (6 + 2)) := ((hp 12 (by decide)).2 59 rfl).trans (hp 12 (by decide)).1
        have e59_ := e59; rw [Array.getD_eq_getD_getElem?] at e59_
        clear hp hi s1 s2 s3
        refine wpOp_of rfl rfl ?_
        go_simp
        refine hK _ _ ⟨_, rfl, ?_, ?_⟩ ((WStep.refl _ _ _).alloc _) (hal k w _ hS)
        · first | (unfold IntsAt; rw [blk_new]; simp; done) | (unfold StrsAt; rw [blk_new]; simp; done)
        · have := hS.1; omega
      · intro a w vs k K hR hp hi hS s1 s2 s3 hK
        have e55 : a.tmps.getD 55 undef = .pointer (some ⟨b, 0, none⟩) := ((hp 8 (by decide)).2 55 rfl).trans (hp 8 (by decide)).1
        have e60 : a.tmps.getD 60 undef = vs 13 := (hp 13 (by decide)).2 60 rfl
        have h13 := (hp 13 (by decide)).1
        obtain ⟨x, hv, hx, hxb⟩ := h13
        rw [hv] at e60
        obtain rfl := s1 2 (by decide) rfl
        have e55_ := e55; rw [Array.getD_eq_getD_getElem?] at e55_
        have e60_ := e60; rw [Array.getD_eq_getD_getElem?] at e60_
        clear hp hi s1 s2 s3
        refine wpOp_of rfl rfl ?_
        go_simp
        refine (text_w b b x _ [tl bb (6 + 2)] 1 1 w rfl hS.2 hx (by simp) hlen3 (hbase w hR)).mono ?_
        rintro e w1 ⟨rfl, hw1, hs1⟩
        exact hK _ _ rfl hs1 ⟨by have := hs1.size; have := hS.1; omega, hw1⟩
      · intro a w vs k K hR hp hi hS s1 s2 s3 hK
        have e61 : a.tmps.getD 61 undef = .pointer (some ⟨b, 0, none⟩) := ((hp 14 (by decide)).2 61 rfl).trans (hp 14 (by decide)).1
        obtain rfl := s1 3 (by decide) rfl
        have e61_ := e61; rw [Array.getD_eq_getD_getElem?] at e61_
        clear hp hi s1 s2 s3
        refine wpOp_of rfl rfl ?_
        go_simp
        refine (done_w b b _ w hS.2 hlen4).mono ?_
        rintro e w1 ⟨rfl, hs1⟩
        rw [← HO.out]
        exact hK _ _ rfl hs1 ⟨by have := hs1.size; have := hS.1; omega, trivial⟩
      · intro a w vs k K hR hp hi hS s1 s2 s3 hK
        have e62 : a.tmps.getD 62 undef = .tuple #[.string out, .int .i64 0] := ((hp 15 (by decide)).2 62 rfl).trans (hp 15 (by decide)).1
        have e62_ := e62; rw [Array.getD_eq_getD_getElem?] at e62_
        clear hp hi s1 s2 s3
        refine wpOp_of rfl rfl ?_
        go_simp
        exact hK _ _ rfl ((WStep.refl b b) _) hS
      · intro a w vs k K hR hp hi hS s1 s2 s3 hK
        have e62 : a.tmps.getD 62 undef = .tuple #[.string out, .int .i64 0] := ((hp 15 (by decide)).2 62 rfl).trans (hp 15 (by decide)).1
        have e62_ := e62; rw [Array.getD_eq_getD_getElem?] at e62_
        clear hp hi s1 s2 s3
        refine wpOp_of rfl rfl ?_
        go_simp
        exact hK _ _ rfl ((WStep.refl b b) _) hS
      · intro a w vs k K hR hp hi hS s1 s2 s3 hK
        have e63 : a.tmps.getD 63 undef = .string out := ((hp 16 (by decide)).2 63 rfl).trans (hp 16 (by decide)).1
        have e63_ := e63; rw [Array.getD_eq_getD_getElem?] at e63_
        clear hp hi s1 s2 s3
        refine wpOp_of rfl rfl ?_
        go_simp
        exact hK _ _ rfl ((WStep.refl b b) _) hS
      · intro a w vs k K hR hp hi hS s1 s2 s3 hK
        have e64 : a.tmps.getD 64 undef = .int .i64 0 := ((hp 17 (by decide)).2 64 rfl).trans (hp 17 (by decide)).1
        have e64_ := e64; rw [Array.getD_eq_getD_getElem?] at e64_
        clear hp hi s1 s2 s3
        refine wpOp_of rfl rfl ?_
        go_simp
        exact hK _ _ rfl ((WStep.refl b b) _) hS
    case hfin =>
      intro vs w5 hR5 hH hS5
      have q0 : vs 0 = .pointer (some ⟨b, 0, none⟩) := hH 0 (by decide)
      have q1 : vs 1 = .string bb := hH 1 (by decide)
      have q2 : vs 2 = .int .i64 6 := hH 2 (by decide)
      have q3 : vs 3 = .string (hd bb 6) := hH 3 (by decide)
      have q5 : vs 5 = .pointer (some ⟨b, 0, none⟩) := hH 5 (by decide)
      have q6 : vs 6 = .int .i64 (n0 : Nat) := hH 6 (by decide)
      have q8 : vs 8 = .pointer (some ⟨b, 0, none⟩) := hH 8 (by decide)
      have q9 : vs 9 = .string bb := hH 9 (by decide)
      have q10 : vs 10 = .int .i64 6 := hH 10 (by decide)
      have q11 : vs 11 = .int .i64 8 := hH 11 (by decide)
      have q12 : vs 12 = .string (tl bb (6 + 2)) := hH 12 (by decide)
      have q14 : vs 14 = .pointer (some ⟨b, 0, none⟩) := hH 14 (by decide)
      have q15 : vs 15 = .tuple #[.string out, .int .i64 0] := hH 15 (by decide)
      have q16 : vs 16 = .string out := hH 16 (by decide)
      have q17 : vs 17 = .int .i64 0 := hH 17 (by decide)
      have q18 : vs 18 = .string out := hH 18 (by decide)
      have q19 : vs 19 = .int .i64 0 := hH 19 (by decide)
      clear hH
      simp only [putL, Act.put, List.setIfInBounds_toArray, List.set_cons_zero, List.set_cons_succ, q0, q1, q2, q3, q5, q6, q8, q9, q10, q11, q12, q14, q15, q16, q17, q18, q19]
      clear q0 q1 q2 q3 q5 q6 q8 q9 q10 q11 q12 q14 q15 q16 q17 q18 q19
      go_wp2
      go_ret2
      refine ⟨?_, hbel3.trans ((Below.drew (Below.refl _ w0)).trans ((hR5.below (Nat.le_of_lt hlt)).mono hle))⟩
      rw [hws.out]
      have ho := HO.out
      show Ending.returned (.tuple #[.string out, .int .i64 0]) = _
      rw [ho]
      simp [cat_one, hz]
      done

set_option maxHeartbeats 8000000 in
set_option maxRecDepth 100000 in
theorem encode_tcp (sp dp seq ack fl wi : Nat) (data : ByteArray) (src dst : Nat) (w : World) (h1 : sp ≤ 65535) (h2 : dp ≤ 65535) (h3 : data.size ≤ 65495) (h4 : wi ≤ 65535) (h5 : fl ≤ 63) (h6 : seq < 4294967296) (h7 : ack < 4294967296) (hsrc : src < 4294967296) (hdst : dst < 4294967296) :
    Calls Try.prog 11 #[.int .i64 6, .int .u32 src, .int .u32 dst, .agg #[.int .i64 (sp : Nat), .int .i64 (dp : Nat), .int .u32 (seq : Nat), .int .u32 (ack : Nat), .int .i64 (fl : Nat), .int .i64 (wi : Nat), .string data]] w fun e w' => e = .returned (.tuple #[.string ⟨(withSum src dst 6 (tcpBytes sp dp seq ack fl wi data) 16).toArray⟩, .int .i64 0]) ∧ Below w.heap.size w w' := by
  have hyes := fun w => right_yes 6 ⟨(sp : Nat), (dp : Nat), (seq : Nat), (ack : Nat), (fl : Nat), (wi : Nat), data⟩ w ⟨⟨by simp, by simp only; omega⟩, ⟨by simp, by simp only; omega⟩, .inl ⟨rfl, ⟨by simp, by simp only; omega⟩, ⟨by simp, by simp only; omega⟩, h3⟩⟩
  unfold Seg.cells at hyes
  have htcp := fun w => tcp_any sp dp seq ack fl wi data w h1 h2 (by omega) h4 h5 h6 h7
  have hbb := tcpBytes_size sp dp seq ack fl wi data
  have hdef : ⟨(beAll 2 [sp, dp] ++ beAll 4 [seq, ack] ++ beAll 2 [20480 + fl, wi, 0, 0] ++ data.data.toList).toArray⟩ = tcpBytes sp dp seq ack fl wi data := rfl
  rw [hdef] at htcp
  have HY := Lib.hid hyes; clear hyes
  have HT := Lib.hid htcp; clear htcp
  have hwsum : Hid (withSum src dst 6 (tcpBytes sp dp seq ack fl wi data) 16 = withSum src dst 6 (tcpBytes sp dp seq ack fl wi data) 16) := rfl
  generalize hbbv : tcpBytes sp dp seq ack fl wi data = bb at *
  have HB := Lib.hid hbbv; clear hbbv hdef
  have hbl : bb.size ≤ 65535 := by omega
  have hbl2 : 16 + 2 ≤ bb.size := by omega
  have HBS := Lib.hid hbb; clear hbb
  have hps := fun w => pseudo_any src dst 6 bb.size w hsrc hdst
  have HP := Lib.hid hps; clear hps
  have hb0 := blk_new w (.cells #[.int .i64 (sp : Nat), .int .i64 (dp : Nat), .int .u32 (seq : Nat), .int .u32 (ack : Nat), .int .i64 (fl : Nat), .int .i64 (wi : Nat), .string data] 24)
  have HB0 := Lib.hid hb0; clear hb0
  go_enter Try.func11, Try.ntmps11
  go_wp2_with (first | (go_at_call 13; (with_reducible refine (HY.out _).mono ?_); rintro e w1 ⟨rfl, hf1⟩; have hb1 := hf1.keep HB0.out id; obtain ⟨d0, d1, d2, d3, d4, d5, d6⟩ := cells7 hb1; have HB1 := Lib.hid hb1; clear hb1) | (go_at_call 40; (with_reducible refine (HT.out _).mono ?_); rintro e w2 ⟨rfl, hf2⟩; have hb2 := (hf2.block _ (blk_lt HB1.out)).trans HB1.out; obtain ⟨g0, g1, g2, g3, g4, g5, g6⟩ := cells7 hb2; clear hb2) | (go_at_call 43; (with_reducible refine (HP.out _).mono ?_); rintro e w4 ⟨rfl, hf4⟩))
  have hbel : Below w.heap.size w w4 := ((Below.refl _ _).alloc (Nat.le_refl _) _).trans (((Foot.below hf1).mono (by simp)).trans ((hf2.mono (by have := hf1.size; simp at this; omega)).trans (hf4.mono (by have := hf1.size; have := hf2.size; simp at *; omega))))
  refine (of_any _ [⟨(pseudo src dst 6 bb.size).toArray⟩, bb] 2 2 _ rfl ?hstr (by decide) ?hszs).mono ?_
  case hstr => exact (blk_new _ _).trans (by simp)
  case hszs => intro s hs; simp only [List.mem_cons, List.not_mem_nil, or_false] at hs; rcases hs with rfl | rfl <;> unfold maxLen <;> first | omega | (rw [← toList_size]; simp [pseudo, beAll_length])
  rintro e w5 ⟨rfl, hf5⟩
  have hbel2 : Below w.heap.size w w5 := (hbel.alloc hbel.size _).trans ((Foot.below hf5).mono (by have := hbel.size; simp; omega))
  have en : 65535 - (putL8 (0, true) (cat [⟨(pseudo src dst 6 bb.size).toArray⟩, bb])).1 = ofSum (pseudo src dst 6 bb.size ++ bb.data.toList) := by rw [cat_two]; rfl
  rw [en]
  clear en hbel hf5
  have hn0 : ofSum (pseudo src dst 6 bb.size ++ bb.data.toList) ≤ 65535 := by unfold ofSum; omega
  have hws : Hid (withSum src dst 6 bb 16 = (hd bb 16).data.toList ++ beAll 2 [if ofSum (pseudo src dst 6 bb.size ++ bb.data.toList) = 0 ∧ (6 : Int) = 17 then 65535 else ofSum (pseudo src dst 6 bb.size ++ bb.data.toList)] ++ (tl bb (16 + 2)).data.toList) := rfl
  generalize ofSum (pseudo src dst 6 bb.size ++ bb.data.toList) = n0 at *
  by_cases hz : n0 = 0
  · subst hz
    go_wp2
    have hwr0 := WrAt.new w5
    have hbel3 : Below w.heap.size w (w5.alloc (.cells #[.bool false, .pointer none, .slice none 0 0] 103)) := hbel2.alloc hbel2.size _
    have hle := hbel2.size
    have hlt : w5.heap.size < (w5.alloc (.cells #[.bool false, .pointer none, .slice none 0 0] 103)).heap.size := by simp
    generalize w5.alloc (.cells #[.bool false, .pointer none, .slice none 0 0] 103) = w0 at *
    generalize w5.heap.size = b at *
    have hbase : ∀ w', WStep b b w0.drew w' → b ≤ w'.heap.size := fun w' h => by have := h.size; have : w0.drew.heap.size = w0.heap.size := rfl; omega
    have hx1 : (cat [hd bb 16]).length = 16 := by rw [cat_one, toList_size, hd_size _ _ (by omega)]
    have hx2 : (cat [tl bb (16 + 2)]).length = bb.size - (16 + 2) := by rw [cat_one, toList_size, tl_size]
    have hlen1 : ([] : List UInt8).length + (cat [hd bb 16]).length ≤ 1000000 := by rw [hx1]; simp
    have hlen2 : ([] ++ cat [hd bb 16]).length ≤ 1000000 := by rw [List.nil_append, hx1]; omega
    have hlen3 : (([] ++ cat [hd bb 16]) ++ beAll 2 [0]).length + (cat [tl bb (16 + 2)]).length ≤ 1000000 := by rw [hx2, List.nil_append, List.length_append, hx1, beAll_length]; simp only [List.length_singleton]; omega
    have hlen4 : ((([] ++ cat [hd bb 16]) ++ beAll 2 [0]) ++ cat [tl bb (16 + 2)]).length ≤ 65535 := by rw [List.length_append, hx2, List.nil_append, List.length_append, hx1, beAll_length]; simp only [List.length_singleton]; omega
    have HX1 := Lib.hid hx1; clear hx1
    have HX2 := Lib.hid hx2; clear hx2
    have hal : ∀ (k : Nat) w (o : Obj), (EncSt b ([] ++ cat [hd bb 16]) (([] ++ cat [hd bb 16]) ++ beAll 2 [0]) ((([] ++ cat [hd bb 16]) ++ beAll 2 [0]) ++ cat [tl bb (16 + 2)])) k w → (EncSt b ([] ++ cat [hd bb 16]) (([] ++ cat [hd bb 16]) ++ beAll 2 [0]) ((([] ++ cat [hd bb 16]) ++ beAll 2 [0]) ++ cat [tl bb (16 + 2)])) k (w.alloc o) := fun k w o h => h.alloc o
    have hst0 : b < w0.drew.heap.size ∧ WrAt b w0.drew b [] := ⟨hlt, hwr0⟩
    have hbl3 : (16 : Int) ≤ bb.size := by omega
    have hbl4 : (18 : Int) ≤ bb.size := by omega
    obtain ⟨out, hout⟩ : ∃ out : ByteArray, out = ⟨((([] ++ cat [hd bb 16]) ++ beAll 2 [0]) ++ cat [tl bb (16 + 2)]).toArray⟩ := ⟨_, rfl⟩
    have HO := Lib.hid hout; clear hout
    refine wp_region_list (by kernel_rfl) [(some 47, []), (some 48, []), (some 49, []), (some 50, [1, 2]), (some 51, [3]), (some 52, [0, 4]), (some 53, []), (some 54, [6]), (some 55, [5, 7, 5]), (some 56, []), (some 57, []), (some 58, [10]), (some 59, [9, 11]), (some 60, [12]), (some 61, [8, 13, 8]), (some 62, [14, 14]), (some 63, [15]), (some 64, [15]), (some 8, [16, 15, 0, 1, 2, 3, 4, 5, 6, 7, 8, 9, 10, 11, 12, 13, 14, 15, 16, 17]), (some 9, [17, 18, 0, 1, 2, 3, 4, 5, 6, 7, 8, 9, 10, 11, 12, 13, 14, 15, 16, 17, 18])] [5, 8, 14, 15] 65 20 (WStep b b) (fun i v w => match i with | 0 => v = .pointer (some ⟨b, 0, none⟩) | 1 => v = .string bb | 2 => v = .int .i64 16 | 3 => v = .string (hd bb 16) | 4 => ∃ x, v = .slice (some ⟨x, 0, none⟩) 1 1 ∧ StrsAt w x [hd bb 16] ∧ x ≠ b | 5 => v = .pointer (some ⟨b, 0, none⟩) | 6 => v = .int .i64 0 | 7 => ∃ x, v = .slice (some ⟨x, 0, none⟩) 1 1 ∧ IntsAt w x 3 .i64 [0] ∧ x ≠ b | 8 => v = .pointer (some ⟨b, 0, none⟩) | 9 => v = .string bb | 10 => v = .int .i64 16 | 11 => v = .int .i64 18 | 12 => v = .string (tl bb (16 + 2)) | 13 => ∃ x, v = .slice (some ⟨x, 0, none⟩) 1 1 ∧ StrsAt w x [tl bb (16 + 2)] ∧ x ≠ b | 14 => v = .pointer (some ⟨b, 0, none⟩) | 15 => v = .tuple #[.string out, .int .i64 0] | 16 => v = .string out | 17 => v = .int .i64 0 | 18 => v = .string out | 19 => v = .int .i64 0 | _ => True) (EncSt b ([] ++ cat [hd bb 16]) (([] ++ cat [hd bb 16]) ++ beAll 2 [0]) ((([] ++ cat [hd bb 16]) ++ beAll 2 [0]) ++ cat [tl bb (16 + 2)])) (by kernel_rfl) rfl rfl (by kernel_rfl) (WStep.refl b b) (fun _ _ _ => WStep.trans) ?Hst ?hst ?howed ?hfin
    case Hst =>
      intro i v w w2 _ hH hR
      rcases i with _ | i
      · first | exact hH | (obtain ⟨x, h1, h2, h3⟩ := hH; exact ⟨x, h1, hR.keep h2 (by decide) h3, h3⟩)
      rcases i with _ | i
      · first | exact hH | (obtain ⟨x, h1, h2, h3⟩ := hH; exact ⟨x, h1, hR.keep h2 (by decide) h3, h3⟩)
      rcases i with _ | i
      · first | exact hH | (obtain ⟨x, h1, h2, h3⟩ := hH; exact ⟨x, h1, hR.keep h2 (by decide) h3, h3⟩)
      rcases i with _ | i
      · first | exact hH | (obtain ⟨x, h1, h2, h3⟩ := hH; exact ⟨x, h1, hR.keep h2 (by decide) h3, h3⟩)
      rcases i with _ | i
      · first | exact hH | (obtain ⟨x, h1, h2, h3⟩ := hH; exact ⟨x, h1, hR.keep h2 (by decide) h3, h3⟩)
      rcases i with _ | i
      · first | exact hH | (obtain ⟨x, h1, h2, h3⟩ := hH; exact ⟨x, h1, hR.keep h2 (by decide) h3, h3⟩)
      rcases i with _ | i
      · first | exact hH | (obtain ⟨x, h1, h2, h3⟩ := hH; exact ⟨x, h1, hR.keep h2 (by decide) h3, h3⟩)
      rcases i with _ | i
      · first | exact hH | (obtain ⟨x, h1, h2, h3⟩ := hH; exact ⟨x, h1, hR.keep h2 (by decide) h3, h3⟩)
      rcases i with _ | i
      · first | exact hH | (obtain ⟨x, h1, h2, h3⟩ := hH; exact ⟨x, h1, hR.keep h2 (by decide) h3, h3⟩)
      rcases i with _ | i
      · first | exact hH | (obtain ⟨x, h1, h2, h3⟩ := hH; exact ⟨x, h1, hR.keep h2 (by decide) h3, h3⟩)
      rcases i with _ | i
      · first | exact hH | (obtain ⟨x, h1, h2, h3⟩ := hH; exact ⟨x, h1, hR.keep h2 (by decide) h3, h3⟩)
      rcases i with _ | i
      · first | exact hH | (obtain ⟨x, h1, h2, h3⟩ := hH; exact ⟨x, h1, hR.keep h2 (by decide) h3, h3⟩)
      rcases i with _ | i
      · first | exact hH | (obtain ⟨x, h1, h2, h3⟩ := hH; exact ⟨x, h1, hR.keep h2 (by decide) h3, h3⟩)
      rcases i with _ | i
      · first | exact hH | (obtain ⟨x, h1, h2, h3⟩ := hH; exact ⟨x, h1, hR.keep h2 (by decide) h3, h3⟩)
      rcases i with _ | i
      · first | exact hH | (obtain ⟨x, h1, h2, h3⟩ := hH; exact ⟨x, h1, hR.keep h2 (by decide) h3, h3⟩)
      rcases i with _ | i
      · first | exact hH | (obtain ⟨x, h1, h2, h3⟩ := hH; exact ⟨x, h1, hR.keep h2 (by decide) h3, h3⟩)
      rcases i with _ | i
      · first | exact hH | (obtain ⟨x, h1, h2, h3⟩ := hH; exact ⟨x, h1, hR.keep h2 (by decide) h3, h3⟩)
      rcases i with _ | i
      · first | exact hH | (obtain ⟨x, h1, h2, h3⟩ := hH; exact ⟨x, h1, hR.keep h2 (by decide) h3, h3⟩)
      rcases i with _ | i
      · first | exact hH | (obtain ⟨x, h1, h2, h3⟩ := hH; exact ⟨x, h1, hR.keep h2 (by decide) h3, h3⟩)
      rcases i with _ | i
      · first | exact hH | (obtain ⟨x, h1, h2, h3⟩ := hH; exact ⟨x, h1, hR.keep h2 (by decide) h3, h3⟩)
      exact trivial
    case hst =>
      exact hst0
    case howed =>
      refine owed_cons (owed_cons (owed_cons (owed_cons (owed_cons (owed_cons (owed_cons (owed_cons (owed_cons (owed_cons (owed_cons (owed_cons (owed_cons (owed_cons (owed_cons (owed_cons (owed_cons (owed_cons (owed_cons (owed_cons (owed_nil _) ?_) ?_) ?_) ?_) ?_) ?_) ?_) ?_) ?_) ?_) ?_) ?_) ?_) ?_) ?_) ?_) ?_) ?_) ?_) ?_
      · intro a w vs k K hR hp hi hS s1 s2 s3 hK
        have e13 : a.tmps.getD 13 undef = .pointer (some ⟨b, 0, none⟩) := old_of hi (by kernel_rfl) rfl
        have e13_ := e13; rw [Array.getD_eq_getD_getElem?] at e13_
        clear hp hi s1 s2 s3
        refine wpOp_of rfl rfl ?_
        go_simp
        exact hK _ _ rfl ((WStep.refl b b) _) hS
      · intro a w vs k K hR hp hi hS s1 s2 s3 hK
        have e10 : a.tmps.getD 10 undef = .string bb := old_of hi (by kernel_rfl) rfl
        have e10_ := e10; rw [Array.getD_eq_getD_getElem?] at e10_
        clear hp hi s1 s2 s3
        refine wpOp_of rfl rfl ?_
        go_simp
        exact hK _ _ rfl ((WStep.refl b b) _) hS
      · intro a w vs k K hR hp hi hS s1 s2 s3 hK
        have e11 : a.tmps.getD 11 undef = .int .i64 16 := old_of hi (by kernel_rfl) rfl
        have e11_ := e11; rw [Array.getD_eq_getD_getElem?] at e11_
        clear hp hi s1 s2 s3
        refine wpOp_of rfl rfl ?_
        go_simp
        exact hK _ _ rfl ((WStep.refl b b) _) hS
      · intro a w vs k K hR hp hi hS s1 s2 s3 hK
        have e48 : a.tmps.getD 48 undef = .string bb := ((hp 1 (by decide)).2 48 rfl).trans (hp 1 (by decide)).1
        have e49 : a.tmps.getD 49 undef = .int .i64 16 := ((hp 2 (by decide)).2 49 rfl).trans (hp 2 (by decide)).1
        have e48_ := e48; rw [Array.getD_eq_getD_getElem?] at e48_
        have e49_ := e49; rw [Array.getD_eq_getD_getElem?] at e49_
        clear hp hi s1 s2 s3
        refine wpOp_of rfl rfl ?_
        go_simp
        exact hK _ _ rfl (WStep.refl _ _ _) hS
      · intro a w vs k K hR hp hi hS s1 s2 s3 hK
        have e50 : a.tmps.getD 50 undef = .string (hd bb 16) := ((hp 3 (by decide)).2 50 rfl).trans (hp 3 (by decide)).1
        have e50_ := e50; rw [Array.getD_eq_getD_getElem?] at e50_
        clear hp hi s1 s2 s3
        refine wpOp_of rfl rfl ?_
        go_simp
        refine hK _ _ ⟨_, rfl, ?_, ?_⟩ ((WStep.refl _ _ _).alloc _) (hal k w _ hS)
        · first | (unfold IntsAt; rw [blk_new]; simp; done) | (unfold StrsAt; rw [blk_new]; simp; done)
        · have := hS.1; omega
      · intro a w vs k K hR hp hi hS s1 s2 s3 hK
        have e47 : a.tmps.getD 47 undef = .pointer (some ⟨b, 0, none⟩) := ((hp 0 (by decide)).2 47 rfl).trans (hp 0 (by decide)).1
        have e51 : a.tmps.getD 51 undef = vs 4 := (hp 4 (by decide)).2 51 rfl
        have h4 := (hp 4 (by decide)).1
        obtain ⟨x, hv, hx, hxb⟩ := h4
        rw [hv] at e51
        obtain rfl := s1 0 (by decide) rfl
        have e47_ := e47; rw [Array.getD_eq_getD_getElem?] at e47_
        have e51_ := e51; rw [Array.getD_eq_getD_getElem?] at e51_
        clear hp hi s1 s2 s3
        refine wpOp_of rfl rfl ?_
        go_simp
        refine (text_w b b x [] [hd bb 16] 1 1 w rfl hS.2 hx (by simp) hlen1 (hbase w hR)).mono ?_
        rintro e w1 ⟨rfl, hw1, hs1⟩
        exact hK _ _ rfl hs1 ⟨by have := hs1.size; have := hS.1; omega, hw1⟩
      · intro a w vs k K hR hp hi hS s1 s2 s3 hK
        have e12 : a.tmps.getD 12 undef = .int .i64 0 := old_of hi (by kernel_rfl) rfl
        have e12_ := e12; rw [Array.getD_eq_getD_getElem?] at e12_
        clear hp hi s1 s2 s3
        refine wpOp_of rfl rfl ?_
        go_simp
        exact hK _ _ rfl ((WStep.refl b b) _) hS
      · intro a w vs k K hR hp hi hS s1 s2 s3 hK
        have e53 : a.tmps.getD 53 undef = .int .i64 0 := ((hp 6 (by decide)).2 53 rfl).trans (hp 6 (by decide)).1
        have e53_ := e53; rw [Array.getD_eq_getD_getElem?] at e53_
        clear hp hi s1 s2 s3
        refine wpOp_of rfl rfl ?_
        go_simp
        refine hK _ _ ⟨_, rfl, ?_, ?_⟩ ((WStep.refl _ _ _).alloc _) (hal k w _ hS)
        · first | (unfold IntsAt; rw [blk_new]; simp; done) | (unfold StrsAt; rw [blk_new]; simp; done)
        · have := hS.1; omega
      · intro a w vs k K hR hp hi hS s1 s2 s3 hK
        have e52 : a.tmps.getD 52 undef = .pointer (some ⟨b, 0, none⟩) := ((hp 5 (by decide)).2 52 rfl).trans (hp 5 (by decide)).1
        have e54 : a.tmps.getD 54 undef = vs 7 := (hp 7 (by decide)).2 54 rfl
        have h7 := (hp 7 (by decide)).1
        obtain ⟨x, hv, hx, hxb⟩ := h7
        rw [hv] at e54
        obtain rfl := s1 1 (by decide) rfl
        have e52_ := e52; rw [Array.getD_eq_getD_getElem?] at e52_
        have e54_ := e54; rw [Array.getD_eq_getD_getElem?] at e54_
        clear hp hi s1 s2 s3
        refine wpOp_of rfl rfl ?_
        go_simp
        refine (short_w b b x _ [0] 1 1 w rfl hS.2 hx (by simp) (by intro z hz; simp at hz; omega) hlen2 (hbase w hR)).mono ?_
        rintro e w1 ⟨rfl, hw1, hs1⟩
        exact hK _ _ rfl hs1 ⟨by have := hs1.size; have := hS.1; omega, hw1⟩
      · intro a w vs k K hR hp hi hS s1 s2 s3 hK
        have e10 : a.tmps.getD 10 undef = .string bb := old_of hi (by kernel_rfl) rfl
        have e10_ := e10; rw [Array.getD_eq_getD_getElem?] at e10_
        clear hp hi s1 s2 s3
        refine wpOp_of rfl rfl ?_
        go_simp
        exact hK _ _ rfl ((WStep.refl b b) _) hS
      · intro a w vs k K hR hp hi hS s1 s2 s3 hK
        have e11 : a.tmps.getD 11 undef = .int .i64 16 := old_of hi (by kernel_rfl) rfl
        have e11_ := e11; rw [Array.getD_eq_getD_getElem?] at e11_
        clear hp hi s1 s2 s3
        refine wpOp_of rfl rfl ?_
        go_simp
        exact hK _ _ rfl ((WStep.refl b b) _) hS
      · intro a w vs k K hR hp hi hS s1 s2 s3 hK
        have e57 : a.tmps.getD 57 undef = .int .i64 16 := ((hp 10 (by decide)).2 57 rfl).trans (hp 10 (by decide)).1
        have e57_ := e57; rw [Array.getD_eq_getD_getElem?] at e57_
        clear hp hi s1 s2 s3
        refine wpOp_of rfl rfl ?_
        go_simp
        first | exact hK _ _ rfl (WStep.refl _ _ _) hS | exact hK _ _ (congrArg (Value.int .i64) (by omega)) (WStep.refl _ _ _) hS
      · intro a w vs k K hR hp hi hS s1 s2 s3 hK
        have e56 : a.tmps.getD 56 undef = .string bb := ((hp 9 (by decide)).2 56 rfl).trans (hp 9 (by decide)).1
        have e58 : a.tmps.getD 58 undef = .int .i64 18 := ((hp 11 (by decide)).2 58 rfl).trans (hp 11 (by decide)).1
        have e56_ := e56; rw [Array.getD_eq_getD_getElem?] at e56_
        have e58_ := e58; rw [Array.getD_eq_getD_getElem?] at e58_
        clear hp hi s1 s2 s3
        refine wpOp_of rfl rfl ?_
        go_simp
        exact hK _ _ rfl (WStep.refl _ _ _) hS
      · intro a w vs k K hR hp hi hS s1 s2 s3 hK
        have e59 : a.tmps.getD 59 undef = .string (tl bb (16 + 2)) := ((hp 12 (by decide)).2 59 rfl).trans (hp 12 (by decide)).1
        have e59_ := e59; rw [Array.getD_eq_getD_getElem?] at e59_
        clear hp hi s1 s2 s3
        refine wpOp_of rfl rfl ?_
        go_simp
        refine hK _ _ ⟨_, rfl, ?_, ?_⟩ ((WStep.refl _ _ _).alloc _) (hal k w _ hS)
        · first | (unfold IntsAt; rw [blk_new]; simp; done) | (unfold StrsAt; rw [blk_new]; simp; done)
        · have := hS.1; omega
      · intro a w vs k K hR hp hi hS s1 s2 s3 hK
        have e55 : a.tmps.getD 55 undef = .pointer (some ⟨b, 0, none⟩) := ((hp 8 (by decide)).2 55 rfl).trans (hp 8 (by decide)).1
        have e60 : a.tmps.getD 60 undef = vs 13 := (hp 13 (by decide)).2 60 rfl
        have h13 := (hp 13 (by decide)).1
        obtain ⟨x, hv, hx, hxb⟩ := h13
        rw [hv] at e60
        obtain rfl := s1 2 (by decide) rfl
        have e55_ := e55; rw [Array.getD_eq_getD_getElem?] at e55_
        have e60_ := e60; rw [Array.getD_eq_getD_getElem?] at e60_
        clear hp hi s1 s2 s3
        refine wpOp_of rfl rfl ?_
        go_simp
        refine (text_w b b x _ [tl bb (16 + 2)] 1 1 w rfl hS.2 hx (by simp) hlen3 (hbase w hR)).mono ?_
        rintro e w1 ⟨rfl, hw1, hs1⟩
        exact hK _ _ rfl hs1 ⟨by have := hs1.size; have := hS.1; omega, hw1⟩
      · intro a w vs k K hR hp hi hS s1 s2 s3 hK
        have e61 : a.tmps.getD 61 undef = .pointer (some ⟨b, 0, none⟩) := ((hp 14 (by decide)).2 61 rfl).trans (hp 14 (by decide)).1
        obtain rfl := s1 3 (by decide) rfl
        have e61_ := e61; rw [Array.getD_eq_getD_getElem?] at e61_
        clear hp hi s1 s2 s3
        refine wpOp_of rfl rfl ?_
        go_simp
        refine (done_w b b _ w hS.2 hlen4).mono ?_
        rintro e w1 ⟨rfl, hs1⟩
        rw [← HO.out]
        exact hK _ _ rfl hs1 ⟨by have := hs1.size; have := hS.1; omega, trivial⟩
      · intro a w vs k K hR hp hi hS s1 s2 s3 hK
        have e62 : a.tmps.getD 62 undef = .tuple #[.string out, .int .i64 0] := ((hp 15 (by decide)).2 62 rfl).trans (hp 15 (by decide)).1
        have e62_ := e62; rw [Array.getD_eq_getD_getElem?] at e62_
        clear hp hi s1 s2 s3
        refine wpOp_of rfl rfl ?_
        go_simp
        exact hK _ _ rfl ((WStep.refl b b) _) hS
      · intro a w vs k K hR hp hi hS s1 s2 s3 hK
        have e62 : a.tmps.getD 62 undef = .tuple #[.string out, .int .i64 0] := ((hp 15 (by decide)).2 62 rfl).trans (hp 15 (by decide)).1
        have e62_ := e62; rw [Array.getD_eq_getD_getElem?] at e62_
        clear hp hi s1 s2 s3
        refine wpOp_of rfl rfl ?_
        go_simp
        exact hK _ _ rfl ((WStep.refl b b) _) hS
      · intro a w vs k K hR hp hi hS s1 s2 s3 hK
        have e63 : a.tmps.getD 63 undef = .string out := ((hp 16 (by decide)).2 63 rfl).trans (hp 16 (by decide)).1
        have e63_ := e63; rw [Array.getD_eq_getD_getElem?] at e63_
        clear hp hi s1 s2 s3
        refine wpOp_of rfl rfl ?_
        go_simp
        exact hK _ _ rfl ((WStep.refl b b) _) hS
      · intro a w vs k K hR hp hi hS s1 s2 s3 hK
        have e64 : a.tmps.getD 64 undef = .int .i64 0 := ((hp 17 (by decide)).2 64 rfl).trans (hp 17 (by decide)).1
        have e64_ := e64; rw [Array.getD_eq_getD_getElem?] at e64_
        clear hp hi s1 s2 s3
        refine wpOp_of rfl rfl ?_
        go_simp
        exact hK _ _ rfl ((WStep.refl b b) _) hS
    case hfin =>
      intro vs w5 hR5 hH hS5
      have q0 : vs 0 = .pointer (some ⟨b, 0, none⟩) := hH 0 (by decide)
      have q1 : vs 1 = .string bb := hH 1 (by decide)
      have q2 : vs 2 = .int .i64 16 := hH 2 (by decide)
      have q3 : vs 3 = .string (hd bb 16) := hH 3 (by decide)
      have q5 : vs 5 = .pointer (some ⟨b, 0, none⟩) := hH 5 (by decide)
      have q6 : vs 6 = .int .i64 0 := hH 6 (by decide)
      have q8 : vs 8 = .pointer (some ⟨b, 0, none⟩) := hH 8 (by decide)
      have q9 : vs 9 = .string bb := hH 9 (by decide)
      have q10 : vs 10 = .int .i64 16 := hH 10 (by decide)
      have q11 : vs 11 = .int .i64 18 := hH 11 (by decide)
      have q12 : vs 12 = .string (tl bb (16 + 2)) := hH 12 (by decide)
      have q14 : vs 14 = .pointer (some ⟨b, 0, none⟩) := hH 14 (by decide)
      have q15 : vs 15 = .tuple #[.string out, .int .i64 0] := hH 15 (by decide)
      have q16 : vs 16 = .string out := hH 16 (by decide)
      have q17 : vs 17 = .int .i64 0 := hH 17 (by decide)
      have q18 : vs 18 = .string out := hH 18 (by decide)
      have q19 : vs 19 = .int .i64 0 := hH 19 (by decide)
      clear hH
      simp only [putL, Act.put, List.setIfInBounds_toArray, List.set_cons_zero, List.set_cons_succ, q0, q1, q2, q3, q5, q6, q8, q9, q10, q11, q12, q14, q15, q16, q17, q18, q19]
      clear q0 q1 q2 q3 q5 q6 q8 q9 q10 q11 q12 q14 q15 q16 q17 q18 q19
      go_wp2
      go_ret2
      refine ⟨?_, hbel3.trans ((Below.drew (Below.refl _ w0)).trans ((hR5.below (Nat.le_of_lt hlt)).mono hle))⟩
      rw [hws.out]
      have ho := HO.out
      show Ending.returned (.tuple #[.string out, .int .i64 0]) = _
      rw [ho]
      simp [cat_one]
      done
  · have hz1 : ((n0 : Int) == 0) = false := by simp; omega
    go_wp2
    have hwr0 := WrAt.new w5
    have hbel3 : Below w.heap.size w (w5.alloc (.cells #[.bool false, .pointer none, .slice none 0 0] 103)) := hbel2.alloc hbel2.size _
    have hle := hbel2.size
    have hlt : w5.heap.size < (w5.alloc (.cells #[.bool false, .pointer none, .slice none 0 0] 103)).heap.size := by simp
    generalize w5.alloc (.cells #[.bool false, .pointer none, .slice none 0 0] 103) = w0 at *
    generalize w5.heap.size = b at *
    have hbase : ∀ w', WStep b b w0.drew w' → b ≤ w'.heap.size := fun w' h => by have := h.size; have : w0.drew.heap.size = w0.heap.size := rfl; omega
    have hx1 : (cat [hd bb 16]).length = 16 := by rw [cat_one, toList_size, hd_size _ _ (by omega)]
    have hx2 : (cat [tl bb (16 + 2)]).length = bb.size - (16 + 2) := by rw [cat_one, toList_size, tl_size]
    have hlen1 : ([] : List UInt8).length + (cat [hd bb 16]).length ≤ 1000000 := by rw [hx1]; simp
    have hlen2 : ([] ++ cat [hd bb 16]).length ≤ 1000000 := by rw [List.nil_append, hx1]; omega
    have hlen3 : (([] ++ cat [hd bb 16]) ++ beAll 2 [n0]).length + (cat [tl bb (16 + 2)]).length ≤ 1000000 := by rw [hx2, List.nil_append, List.length_append, hx1, beAll_length]; simp only [List.length_singleton]; omega
    have hlen4 : ((([] ++ cat [hd bb 16]) ++ beAll 2 [n0]) ++ cat [tl bb (16 + 2)]).length ≤ 65535 := by rw [List.length_append, hx2, List.nil_append, List.length_append, hx1, beAll_length]; simp only [List.length_singleton]; omega
    have HX1 := Lib.hid hx1; clear hx1
    have HX2 := Lib.hid hx2; clear hx2
    have hal : ∀ (k : Nat) w (o : Obj), (EncSt b ([] ++ cat [hd bb 16]) (([] ++ cat [hd bb 16]) ++ beAll 2 [n0]) ((([] ++ cat [hd bb 16]) ++ beAll 2 [n0]) ++ cat [tl bb (16 + 2)])) k w → (EncSt b ([] ++ cat [hd bb 16]) (([] ++ cat [hd bb 16]) ++ beAll 2 [n0]) ((([] ++ cat [hd bb 16]) ++ beAll 2 [n0]) ++ cat [tl bb (16 + 2)])) k (w.alloc o) := fun k w o h => h.alloc o
    have hst0 : b < w0.drew.heap.size ∧ WrAt b w0.drew b [] := ⟨hlt, hwr0⟩
    have hbl3 : (16 : Int) ≤ bb.size := by omega
    have hbl4 : (18 : Int) ≤ bb.size := by omega
    obtain ⟨out, hout⟩ : ∃ out : ByteArray, out = ⟨((([] ++ cat [hd bb 16]) ++ beAll 2 [n0]) ++ cat [tl bb (16 + 2)]).toArray⟩ := ⟨_, rfl⟩
    have HO := Lib.hid hout; clear hout
    refine wp_region_list (by kernel_rfl) [(some 47, []), (some 48, []), (some 49, []), (some 50, [1, 2]), (some 51, [3]), (some 52, [0, 4]), (some 53, []), (some 54, [6]), (some 55, [5, 7, 5]), (some 56, []), (some 57, []), (some 58, [10]), (some 59, [9, 11]), (some 60, [12]), (some 61, [8, 13, 8]), (some 62, [14, 14]), (some 63, [15]), (some 64, [15]), (some 8, [16, 15, 0, 1, 2, 3, 4, 5, 6, 7, 8, 9, 10, 11, 12, 13, 14, 15, 16, 17]), (some 9, [17, 18, 0, 1, 2, 3, 4, 5, 6, 7, 8, 9, 10, 11, 12, 13, 14, 15, 16, 17, 18])] [5, 8, 14, 15] 65 20 (WStep b b) (fun i v w => match i with | 0 => v = .pointer (some ⟨b, 0, none⟩) | 1 => v = .string bb | 2 => v = .int .i64 16 | 3 => v = .string (hd bb 16) | 4 => ∃ x, v = .slice (some ⟨x, 0, none⟩) 1 1 ∧ StrsAt w x [hd bb 16] ∧ x ≠ b | 5 => v = .pointer (some ⟨b, 0, none⟩) | 6 => v = .int .i64 (n0 : Nat) | 7 => ∃ x, v = .slice (some ⟨x, 0, none⟩) 1 1 ∧ IntsAt w x 3 .i64 [n0] ∧ x ≠ b | 8 => v = .pointer (some ⟨b, 0, none⟩) | 9 => v = .string bb | 10 => v = .int .i64 16 | 11 => v = .int .i64 18 | 12 => v = .string (tl bb (16 + 2)) | 13 => ∃ x, v = .slice (some ⟨x, 0, none⟩) 1 1 ∧ StrsAt w x [tl bb (16 + 2)] ∧ x ≠ b | 14 => v = .pointer (some ⟨b, 0, none⟩) | 15 => v = .tuple #[.string out, .int .i64 0] | 16 => v = .string out | 17 => v = .int .i64 0 | 18 => v = .string out | 19 => v = .int .i64 0 | _ => True) (EncSt b ([] ++ cat [hd bb 16]) (([] ++ cat [hd bb 16]) ++ beAll 2 [n0]) ((([] ++ cat [hd bb 16]) ++ beAll 2 [n0]) ++ cat [tl bb (16 + 2)])) (by kernel_rfl) rfl rfl (by kernel_rfl) (WStep.refl b b) (fun _ _ _ => WStep.trans) ?Hst ?hst ?howed ?hfin
    case Hst =>
      intro i v w w2 _ hH hR
      rcases i with _ | i
      · first | exact hH | (obtain ⟨x, h1, h2, h3⟩ := hH; exact ⟨x, h1, hR.keep h2 (by decide) h3, h3⟩)
      rcases i with _ | i
      · first | exact hH | (obtain ⟨x, h1, h2, h3⟩ := hH; exact ⟨x, h1, hR.keep h2 (by decide) h3, h3⟩)
      rcases i with _ | i
      · first | exact hH | (obtain ⟨x, h1, h2, h3⟩ := hH; exact ⟨x, h1, hR.keep h2 (by decide) h3, h3⟩)
      rcases i with _ | i
      · first | exact hH | (obtain ⟨x, h1, h2, h3⟩ := hH; exact ⟨x, h1, hR.keep h2 (by decide) h3, h3⟩)
      rcases i with _ | i
      · first | exact hH | (obtain ⟨x, h1, h2, h3⟩ := hH; exact ⟨x, h1, hR.keep h2 (by decide) h3, h3⟩)
      rcases i with _ | i
      · first | exact hH | (obtain ⟨x, h1, h2, h3⟩ := hH; exact ⟨x, h1, hR.keep h2 (by decide) h3, h3⟩)
      rcases i with _ | i
      · first | exact hH | (obtain ⟨x, h1, h2, h3⟩ := hH; exact ⟨x, h1, hR.keep h2 (by decide) h3, h3⟩)
      rcases i with _ | i
      · first | exact hH | (obtain ⟨x, h1, h2, h3⟩ := hH; exact ⟨x, h1, hR.keep h2 (by decide) h3, h3⟩)
      rcases i with _ | i
      · first | exact hH | (obtain ⟨x, h1, h2, h3⟩ := hH; exact ⟨x, h1, hR.keep h2 (by decide) h3, h3⟩)
      rcases i with _ | i
      · first | exact hH | (obtain ⟨x, h1, h2, h3⟩ := hH; exact ⟨x, h1, hR.keep h2 (by decide) h3, h3⟩)
      rcases i with _ | i
      · first | exact hH | (obtain ⟨x, h1, h2, h3⟩ := hH; exact ⟨x, h1, hR.keep h2 (by decide) h3, h3⟩)
      rcases i with _ | i
      · first | exact hH | (obtain ⟨x, h1, h2, h3⟩ := hH; exact ⟨x, h1, hR.keep h2 (by decide) h3, h3⟩)
      rcases i with _ | i
      · first | exact hH | (obtain ⟨x, h1, h2, h3⟩ := hH; exact ⟨x, h1, hR.keep h2 (by decide) h3, h3⟩)
      rcases i with _ | i
      · first | exact hH | (obtain ⟨x, h1, h2, h3⟩ := hH; exact ⟨x, h1, hR.keep h2 (by decide) h3, h3⟩)
      rcases i with _ | i
      · first | exact hH | (obtain ⟨x, h1, h2, h3⟩ := hH; exact ⟨x, h1, hR.keep h2 (by decide) h3, h3⟩)
      rcases i with _ | i
      · first | exact hH | (obtain ⟨x, h1, h2, h3⟩ := hH; exact ⟨x, h1, hR.keep h2 (by decide) h3, h3⟩)
      rcases i with _ | i
      · first | exact hH | (obtain ⟨x, h1, h2, h3⟩ := hH; exact ⟨x, h1, hR.keep h2 (by decide) h3, h3⟩)
      rcases i with _ | i
      · first | exact hH | (obtain ⟨x, h1, h2, h3⟩ := hH; exact ⟨x, h1, hR.keep h2 (by decide) h3, h3⟩)
      rcases i with _ | i
      · first | exact hH | (obtain ⟨x, h1, h2, h3⟩ := hH; exact ⟨x, h1, hR.keep h2 (by decide) h3, h3⟩)
      rcases i with _ | i
      · first | exact hH | (obtain ⟨x, h1, h2, h3⟩ := hH; exact ⟨x, h1, hR.keep h2 (by decide) h3, h3⟩)
      exact trivial
    case hst =>
      exact hst0
    case howed =>
      refine owed_cons (owed_cons (owed_cons (owed_cons (owed_cons (owed_cons (owed_cons (owed_cons (owed_cons (owed_cons (owed_cons (owed_cons (owed_cons (owed_cons (owed_cons (owed_cons (owed_cons (owed_cons (owed_cons (owed_cons (owed_nil _) ?_) ?_) ?_) ?_) ?_) ?_) ?_) ?_) ?_) ?_) ?_) ?_) ?_) ?_) ?_) ?_) ?_) ?_) ?_) ?_
      · intro a w vs k K hR hp hi hS s1 s2 s3 hK
        have e13 : a.tmps.getD 13 undef = .pointer (some ⟨b, 0, none⟩) := old_of hi (by kernel_rfl) rfl
        have e13_ := e13; rw [Array.getD_eq_getD_getElem?] at e13_
        clear hp hi s1 s2 s3
        refine wpOp_of rfl rfl ?_
        go_simp
        exact hK _ _ rfl ((WStep.refl b b) _) hS
      · intro a w vs k K hR hp hi hS s1 s2 s3 hK
        have e10 : a.tmps.getD 10 undef = .string bb := old_of hi (by kernel_rfl) rfl
        have e10_ := e10; rw [Array.getD_eq_getD_getElem?] at e10_
        clear hp hi s1 s2 s3
        refine wpOp_of rfl rfl ?_
        go_simp
        exact hK _ _ rfl ((WStep.refl b b) _) hS
      · intro a w vs k K hR hp hi hS s1 s2 s3 hK
        have e11 : a.tmps.getD 11 undef = .int .i64 16 := old_of hi (by kernel_rfl) rfl
        have e11_ := e11; rw [Array.getD_eq_getD_getElem?] at e11_
        clear hp hi s1 s2 s3
        refine wpOp_of rfl rfl ?_
        go_simp
        exact hK _ _ rfl ((WStep.refl b b) _) hS
      · intro a w vs k K hR hp hi hS s1 s2 s3 hK
        have e48 : a.tmps.getD 48 undef = .string bb := ((hp 1 (by decide)).2 48 rfl).trans (hp 1 (by decide)).1
        have e49 : a.tmps.getD 49 undef = .int .i64 16 := ((hp 2 (by decide)).2 49 rfl).trans (hp 2 (by decide)).1
        have e48_ := e48; rw [Array.getD_eq_getD_getElem?] at e48_
        have e49_ := e49; rw [Array.getD_eq_getD_getElem?] at e49_
        clear hp hi s1 s2 s3
        refine wpOp_of rfl rfl ?_
        go_simp
        exact hK _ _ rfl (WStep.refl _ _ _) hS
      · intro a w vs k K hR hp hi hS s1 s2 s3 hK
        have e50 : a.tmps.getD 50 undef = .string (hd bb 16) := ((hp 3 (by decide)).2 50 rfl).trans (hp 3 (by decide)).1
        have e50_ := e50; rw [Array.getD_eq_getD_getElem?] at e50_
        clear hp hi s1 s2 s3
        refine wpOp_of rfl rfl ?_
        go_simp
        refine hK _ _ ⟨_, rfl, ?_, ?_⟩ ((WStep.refl _ _ _).alloc _) (hal k w _ hS)
        · first | (unfold IntsAt; rw [blk_new]; simp; done) | (unfold StrsAt; rw [blk_new]; simp; done)
        · have := hS.1; omega
      · intro a w vs k K hR hp hi hS s1 s2 s3 hK
        have e47 : a.tmps.getD 47 undef = .pointer (some ⟨b, 0, none⟩) := ((hp 0 (by decide)).2 47 rfl).trans (hp 0 (by decide)).1
        have e51 : a.tmps.getD 51 undef = vs 4 := (hp 4 (by decide)).2 51 rfl
        have h4 := (hp 4 (by decide)).1
        obtain ⟨x, hv, hx, hxb⟩ := h4
        rw [hv] at e51
        obtain rfl := s1 0 (by decide) rfl
        have e47_ := e47; rw [Array.getD_eq_getD_getElem?] at e47_
        have e51_ := e51; rw [Array.getD_eq_getD_getElem?] at e51_
        clear hp hi s1 s2 s3
        refine wpOp_of rfl rfl ?_
        go_simp
        refine (text_w b b x [] [hd bb 16] 1 1 w rfl hS.2 hx (by simp) hlen1 (hbase w hR)).mono ?_
        rintro e w1 ⟨rfl, hw1, hs1⟩
        exact hK _ _ rfl hs1 ⟨by have := hs1.size; have := hS.1; omega, hw1⟩
      · intro a w vs k K hR hp hi hS s1 s2 s3 hK
        have e12 : a.tmps.getD 12 undef = .int .i64 (n0 : Nat) := old_of hi (by kernel_rfl) rfl
        have e12_ := e12; rw [Array.getD_eq_getD_getElem?] at e12_
        clear hp hi s1 s2 s3
        refine wpOp_of rfl rfl ?_
        go_simp
        exact hK _ _ rfl ((WStep.refl b b) _) hS
      · intro a w vs k K hR hp hi hS s1 s2 s3 hK
        have e53 : a.tmps.getD 53 undef = .int .i64 (n0 : Nat) := ((hp 6 (by decide)).2 53 rfl).trans (hp 6 (by decide)).1
        have e53_ := e53; rw [Array.getD_eq_getD_getElem?] at e53_
        clear hp hi s1 s2 s3
        refine wpOp_of rfl rfl ?_
        go_simp
        refine hK _ _ ⟨_, rfl, ?_, ?_⟩ ((WStep.refl _ _ _).alloc _) (hal k w _ hS)
        · first | (unfold IntsAt; rw [blk_new]; simp; done) | (unfold StrsAt; rw [blk_new]; simp; done)
        · have := hS.1; omega
      · intro a w vs k K hR hp hi hS s1 s2 s3 hK
        have e52 : a.tmps.getD 52 undef = .pointer (some ⟨b, 0, none⟩) := ((hp 5 (by decide)).2 52 rfl).trans (hp 5 (by decide)).1
        have e54 : a.tmps.getD 54 undef = vs 7 := (hp 7 (by decide)).2 54 rfl
        have h7 := (hp 7 (by decide)).1
        obtain ⟨x, hv, hx, hxb⟩ := h7
        rw [hv] at e54
        obtain rfl := s1 1 (by decide) rfl
        have e52_ := e52; rw [Array.getD_eq_getD_getElem?] at e52_
        have e54_ := e54; rw [Array.getD_eq_getD_getElem?] at e54_
        clear hp hi s1 s2 s3
        refine wpOp_of rfl rfl ?_
        go_simp
        refine (short_w b b x _ [n0] 1 1 w rfl hS.2 hx (by simp) (by intro z hz; simp at hz; omega) hlen2 (hbase w hR)).mono ?_
        rintro e w1 ⟨rfl, hw1, hs1⟩
        exact hK _ _ rfl hs1 ⟨by have := hs1.size; have := hS.1; omega, hw1⟩
      · intro a w vs k K hR hp hi hS s1 s2 s3 hK
        have e10 : a.tmps.getD 10 undef = .string bb := old_of hi (by kernel_rfl) rfl
        have e10_ := e10; rw [Array.getD_eq_getD_getElem?] at e10_
        clear hp hi s1 s2 s3
        refine wpOp_of rfl rfl ?_
        go_simp
        exact hK _ _ rfl ((WStep.refl b b) _) hS
      · intro a w vs k K hR hp hi hS s1 s2 s3 hK
        have e11 : a.tmps.getD 11 undef = .int .i64 16 := old_of hi (by kernel_rfl) rfl
        have e11_ := e11; rw [Array.getD_eq_getD_getElem?] at e11_
        clear hp hi s1 s2 s3
        refine wpOp_of rfl rfl ?_
        go_simp
        exact hK _ _ rfl ((WStep.refl b b) _) hS
      · intro a w vs k K hR hp hi hS s1 s2 s3 hK
        have e57 : a.tmps.getD 57 undef = .int .i64 16 := ((hp 10 (by decide)).2 57 rfl).trans (hp 10 (by decide)).1
        have e57_ := e57; rw [Array.getD_eq_getD_getElem?] at e57_
        clear hp hi s1 s2 s3
        refine wpOp_of rfl rfl ?_
        go_simp
        first | exact hK _ _ rfl (WStep.refl _ _ _) hS | exact hK _ _ (congrArg (Value.int .i64) (by omega)) (WStep.refl _ _ _) hS
      · intro a w vs k K hR hp hi hS s1 s2 s3 hK
        have e56 : a.tmps.getD 56 undef = .string bb := ((hp 9 (by decide)).2 56 rfl).trans (hp 9 (by decide)).1
        have e58 : a.tmps.getD 58 undef = .int .i64 18 := ((hp 11 (by decide)).2 58 rfl).trans (hp 11 (by decide)).1
        have e56_ := e56; rw [Array.getD_eq_getD_getElem?] at e56_
        have e58_ := e58; rw [Array.getD_eq_getD_getElem?] at e58_
        clear hp hi s1 s2 s3
        refine wpOp_of rfl rfl ?_
        go_simp
        exact hK _ _ rfl (WStep.refl _ _ _) hS
      · intro a w vs k K hR hp hi hS s1 s2 s3 hK
        have e59 : a.tmps.getD 59 undef = .string (tl bb (16 + 2)) := ((hp 12 (by decide)).2 59 rfl).trans (hp 12 (by decide)).1
        have e59_ := e59; rw [Array.getD_eq_getD_getElem?] at e59_
        clear hp hi s1 s2 s3
        refine wpOp_of rfl rfl ?_
        go_simp
        refine hK _ _ ⟨_, rfl, ?_, ?_⟩ ((WStep.refl _ _ _).alloc _) (hal k w _ hS)
        · first | (unfold IntsAt; rw [blk_new]; simp; done) | (unfold StrsAt; rw [blk_new]; simp; done)
        · have := hS.1; omega
      · intro a w vs k K hR hp hi hS s1 s2 s3 hK
        have e55 : a.tmps.getD 55 undef = .pointer (some ⟨b, 0, none⟩) := ((hp 8 (by decide)).2 55 rfl).trans (hp 8 (by decide)).1
        have e60 : a.tmps.getD 60 undef = vs 13 := (hp 13 (by decide)).2 60 rfl
        have h13 := (hp 13 (by decide)).1
        obtain ⟨x, hv, hx, hxb⟩ := h13
        rw [hv] at e60
        obtain rfl := s1 2 (by decide) rfl
        have e55_ := e55; rw [Array.getD_eq_getD_getElem?] at e55_
        have e60_ := e60; rw [Array.getD_eq_getD_getElem?] at e60_
        clear hp hi s1 s2 s3
        refine wpOp_of rfl rfl ?_
        go_simp
        refine (text_w b b x _ [tl bb (16 + 2)] 1 1 w rfl hS.2 hx (by simp) hlen3 (hbase w hR)).mono ?_
        rintro e w1 ⟨rfl, hw1, hs1⟩
        exact hK _ _ rfl hs1 ⟨by have := hs1.size; have := hS.1; omega, hw1⟩
      · intro a w vs k K hR hp hi hS s1 s2 s3 hK
        have e61 : a.tmps.getD 61 undef = .pointer (some ⟨b, 0, none⟩) := ((hp 14 (by decide)).2 61 rfl).trans (hp 14 (by decide)).1
        obtain rfl := s1 3 (by decide) rfl
        have e61_ := e61; rw [Array.getD_eq_getD_getElem?] at e61_
        clear hp hi s1 s2 s3
        refine wpOp_of rfl rfl ?_
        go_simp
        refine (done_w b b _ w hS.2 hlen4).mono ?_
        rintro e w1 ⟨rfl, hs1⟩
        rw [← HO.out]
        exact hK _ _ rfl hs1 ⟨by have := hs1.size; have := hS.1; omega, trivial⟩
      · intro a w vs k K hR hp hi hS s1 s2 s3 hK
        have e62 : a.tmps.getD 62 undef = .tuple #[.string out, .int .i64 0] := ((hp 15 (by decide)).2 62 rfl).trans (hp 15 (by decide)).1
        have e62_ := e62; rw [Array.getD_eq_getD_getElem?] at e62_
        clear hp hi s1 s2 s3
        refine wpOp_of rfl rfl ?_
        go_simp
        exact hK _ _ rfl ((WStep.refl b b) _) hS
      · intro a w vs k K hR hp hi hS s1 s2 s3 hK
        have e62 : a.tmps.getD 62 undef = .tuple #[.string out, .int .i64 0] := ((hp 15 (by decide)).2 62 rfl).trans (hp 15 (by decide)).1
        have e62_ := e62; rw [Array.getD_eq_getD_getElem?] at e62_
        clear hp hi s1 s2 s3
        refine wpOp_of rfl rfl ?_
        go_simp
        exact hK _ _ rfl ((WStep.refl b b) _) hS
      · intro a w vs k K hR hp hi hS s1 s2 s3 hK
        have e63 : a.tmps.getD 63 undef = .string out := ((hp 16 (by decide)).2 63 rfl).trans (hp 16 (by decide)).1
        have e63_ := e63; rw [Array.getD_eq_getD_getElem?] at e63_
        clear hp hi s1 s2 s3
        refine wpOp_of rfl rfl ?_
        go_simp
        exact hK _ _ rfl ((WStep.refl b b) _) hS
      · intro a w vs k K hR hp hi hS s1 s2 s3 hK
        have e64 : a.tmps.getD 64 undef = .int .i64 0 := ((hp 17 (by decide)).2 64 rfl).trans (hp 17 (by decide)).1
        have e64_ := e64; rw [Array.getD_eq_getD_getElem?] at e64_
        clear hp hi s1 s2 s3
        refine wpOp_of rfl rfl ?_
        go_simp
        exact hK _ _ rfl ((WStep.refl b b) _) hS
    case hfin =>
      intro vs w5 hR5 hH hS5
      have q0 : vs 0 = .pointer (some ⟨b, 0, none⟩) := hH 0 (by decide)
      have q1 : vs 1 = .string bb := hH 1 (by decide)
      have q2 : vs 2 = .int .i64 16 := hH 2 (by decide)
      have q3 : vs 3 = .string (hd bb 16) := hH 3 (by decide)
      have q5 : vs 5 = .pointer (some ⟨b, 0, none⟩) := hH 5 (by decide)
      have q6 : vs 6 = .int .i64 (n0 : Nat) := hH 6 (by decide)
      have q8 : vs 8 = .pointer (some ⟨b, 0, none⟩) := hH 8 (by decide)
      have q9 : vs 9 = .string bb := hH 9 (by decide)
      have q10 : vs 10 = .int .i64 16 := hH 10 (by decide)
      have q11 : vs 11 = .int .i64 18 := hH 11 (by decide)
      have q12 : vs 12 = .string (tl bb (16 + 2)) := hH 12 (by decide)
      have q14 : vs 14 = .pointer (some ⟨b, 0, none⟩) := hH 14 (by decide)
      have q15 : vs 15 = .tuple #[.string out, .int .i64 0] := hH 15 (by decide)
      have q16 : vs 16 = .string out := hH 16 (by decide)
      have q17 : vs 17 = .int .i64 0 := hH 17 (by decide)
      have q18 : vs 18 = .string out := hH 18 (by decide)
      have q19 : vs 19 = .int .i64 0 := hH 19 (by decide)
      clear hH
      simp only [putL, Act.put, List.setIfInBounds_toArray, List.set_cons_zero, List.set_cons_succ, q0, q1, q2, q3, q5, q6, q8, q9, q10, q11, q12, q14, q15, q16, q17, q18, q19]
      clear q0 q1 q2 q3 q5 q6 q8 q9 q10 q11 q12 q14 q15 q16 q17 q18 q19
      go_wp2
      go_ret2
      refine ⟨?_, hbel3.trans ((Below.drew (Below.refl _ w0)).trans ((hR5.below (Nat.le_of_lt hlt)).mono hle))⟩
      rw [hws.out]
      have ho := HO.out
      show Ending.returned (.tuple #[.string out, .int .i64 0]) = _
      rw [ho]
      simp [cat_one, hz]
      done

end Go.Proofs.Ytcmgfmpmapnckaa
