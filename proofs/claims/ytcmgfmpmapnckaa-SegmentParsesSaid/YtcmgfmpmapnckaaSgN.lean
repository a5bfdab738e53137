/- Walks of the reference's Parse and Ports for segments. Written by wip/genrp.py. -/
import Derived.Test.YtcmgfmpmapnckaaPm
namespace Go.Proofs.Ytcmgfmpmapnckaa
open Go.RowKit
set_option linter.unusedVariables false
set_option linter.unusedSimpArgs false

theorem rnum_succ2 (b : ByteArray) (i : Nat) (h : i + 2 ≤ b.size) : rnum (tl b i) 2 = 256 * (b[i]!).toNat + (b[i + 1]!).toNat := by
  have e : b = str b.data.toList := (str_data b).symm
  have l0 : i < b.data.toList.length := by rw [toList_size]; omega
  have l1 : i + 1 < b.data.toList.length := by rw [toList_size]; omega
  have g0 : b[i]! = b.data.toList[i] := by
    have : i < b.size := by omega
    simp [this]; rfl
  have g1 : b[i + 1]! = b.data.toList[i + 1] := by
    have : i + 1 < b.size := by omega
    simp [this]; rfl
  rw [g0, g1]
  conv => lhs; rw [e]
  rw [tl_str, rnum_str, List.drop_eq_getElem_cons l0, List.drop_eq_getElem_cons l1]
  simp [num]
  omega
theorem rnum_one (b : ByteArray) (i : Nat) (h : i < b.size) : rnum (tl b i) 1 = (b[i]).toNat := by
  have e : b = str b.data.toList := (str_data b).symm
  have l0 : i < b.data.toList.length := by rw [toList_size]; omega
  have g0 : b[i] = b.data.toList[i] := rfl
  rw [g0]
  conv => lhs; rw [e]
  rw [tl_str, rnum_str, List.drop_eq_getElem_cons l0]
  simp [num]
theorem rnum_four (b : ByteArray) (i : Nat) (h : i + 4 ≤ b.size) : rnum (tl b i) 4 = rnum (tl b i) 2 * 65536 + rnum (tl b (i + 2)) 2 := by
  have e : b = str b.data.toList := (str_data b).symm
  have l0 : i < b.data.toList.length := by rw [toList_size]; omega
  have l1 : i + 1 < b.data.toList.length := by rw [toList_size]; omega
  have l2 : i + 1 + 1 < b.data.toList.length := by rw [toList_size]; omega
  have l3 : i + 1 + 1 + 1 < b.data.toList.length := by rw [toList_size]; omega
  rw [e]
  rw [tl_str, tl_str, rnum_str, rnum_str, rnum_str, List.drop_eq_getElem_cons l0, List.drop_eq_getElem_cons l1, List.drop_eq_getElem_cons l2, List.drop_eq_getElem_cons l3]
  simp [num]
  omega
theorem rnum2_le (b : ByteArray) (i : Nat) (h : i + 2 ≤ b.size) : rnum (tl b i) 2 ≤ 65535 := by
  have := rnum_lt (tl b i) 2 (by rw [tl_size]; omega)
  omega

theorem nib_facts (x q : Nat) (hq : q = x / 16) (h : x < 256) : IntKind.i64.wrap (x : Int) = x ∧ (x : Int).tdiv 16 = (q : Nat) ∧ IntKind.i64.wrap (q : Int) = q ∧ IntKind.i64.wrap ((q : Int) * 4) = (q * 4 : Nat) := by
  have hql : q < 16 := by omega
  refine ⟨IntWalk.i64_in _ ⟨by omega, by omega⟩, ?_, IntWalk.i64_in _ ⟨by omega, by omega⟩, ?_⟩
  · rw [hq, Int.tdiv_eq_ediv_of_nonneg (by omega)]; omega
  · have e : (q : Int) * 4 = (q * 4 : Nat) := by omega
    rw [e]
    have h2 : q * 4 < 64 := by omega
    generalize q * 4 = m at *
    clear e hq
    exact IntWalk.i64_in _ ⟨by omega, by omega⟩
set_option maxRecDepth 100000 in
theorem index_u8 (b : ByteArray) (i : Nat) (z : Int) (hz : z = i) (h : i < b.size) (u : World) : (Instr.index 9 (.string b) (.int .i64 z)).run Try.prog u = .ok (.int .u8 (rnum (tl b i) 1 : Nat)) u := by
  subst hz
  rw [run_index_string u 9 b .i64 i rfl, dif_pos ⟨by omega, by omega⟩, rnum_one b i h]
  rfl
theorem rnum_one_lt (b : ByteArray) (i : Nat) (h : i < b.size) : rnum (tl b i) 1 < 256 := by
  rw [rnum_one b i h]
  exact (b[i]).toNat_lt
theorem low_facts (y : Nat) (h : y < 256) : IntKind.i64.wrap (y : Int) = y ∧ (y : Int).tmod 64 = (y % 64 : Nat) ∧ IntKind.i64.wrap ((y % 64 : Nat) : Int) = (y % 64 : Nat) := by
  refine ⟨IntWalk.i64_in _ ⟨by omega, by omega⟩, ?_, IntWalk.i64_in _ ⟨by omega, by omega⟩⟩
  rw [Int.tmod_eq_emod_of_nonneg (by omega)]; omega
theorem refShort_at (b : ByteArray) (i : Nat) (z : Int) (hz : z = i) (w : World) (h : i + 2 ≤ b.size) (hmax : b.size ≤ 3000) :
    Calls Try.prog 56 #[.string b, .int .i64 z] w fun e w' => e = .returned (.int .i64 (rnum (tl b i) 2 : Nat)) ∧ ∃ n, w' = w.drewN n := by
  rw [rnum_succ2 b i h]
  exact refShortAt_any b i z hz w h (by unfold maxLen; omega)

def RefParsePost (proto : Int) (src dst : Nat) (b : ByteArray) (w : World) (e : Ending) (w' : World) : Prop :=
  e = .returned (.tuple #[.agg (parseSeg proto src dst b).cells, .int .i64 (parseCode proto src dst b : Nat)]) ∧ Below w.heap.size w w'

set_option maxHeartbeats 1000000 in
theorem refParse_fin {proto : Int} {src dst : Nat} {b : ByteArray} {w w6 : World} {rb : Nat} {tm : Array Value} {fr : Nat × Nat} (s : Seg) (c : Int)
    (hset : w6.heap[rb]? = some (.cells s.cells 24 fr)) (h8 : tm.getD 8 undef = .pointer (some ⟨rb, 0, none⟩)) (h9 : tm.getD 9 undef = .int .i64 c)
    (hbel : Below w.heap.size w w6) (hs : parseSeg proto src dst b = s) (hc : (parseCode proto src dst b : Int) = c) :
    bodyPost Try.prog Try.f16 (RefParsePost proto src dst b w) Exit.ret { tmps := tm, defers := [] } w6 := by
  obtain ⟨d0, d1, d2, d3, d4, d5, d6⟩ := cells7 hset
  have h8' := h8; have h9' := h9
  rw [Array.getD_eq_getD_getElem?] at h8' h9'
  subst hs
  refine bodyPost_ret (v := .tuple #[.agg (parseSeg proto src dst b).cells, .int .i64 c]) ?_ rfl ⟨by rw [hc], hbel⟩
  generalize parseSeg proto src dst b = s at *
  clear hbel hset hc
  simp [results, Try.results16, go_sem, Seg.cells, h8, h9, h8', h9', d0, d1, d2, d3, d4, d5, d6]

theorem refParse_fin7 {proto : Int} {src dst : Nat} {b : ByteArray} {w w5 : World} {rb : Nat} {a0 a1 a2 a3 a4 a5 a6 : Value} {tm : Array Value} {fr : Nat × Nat} (s : Seg) (c : Int)
    (hrb : w5.heap[rb]? = some (.cells #[a0, a1, a2, a3, a4, a5, a6] 24 fr)) (h8 : tm.getD 8 undef = .pointer (some ⟨rb, 0, none⟩)) (h9 : tm.getD 9 undef = .int .i64 c)
    (hb : Below w.heap.size w w5) (hB : w.heap.size ≤ rb) (hs : parseSeg proto src dst b = s) (hc : (parseCode proto src dst b : Int) = c) :
    bodyPost Try.prog Try.f16 (RefParsePost proto src dst b w) Exit.ret { tmps := tm, defers := [] }
      (((((((w5.setCell ⟨rb, 0, none⟩ (.int .i64 s.sport)).setCell ⟨rb, 1, none⟩ (.int .i64 s.dport)).setCell ⟨rb, 2, none⟩ (.int .u32 s.seq)).setCell ⟨rb, 3, none⟩ (.int .u32 s.ack)).setCell ⟨rb, 4, none⟩ (.int .i64 s.flags)).setCell ⟨rb, 5, none⟩ (.int .i64 s.window)).setCell ⟨rb, 6, none⟩ (.string s.data)) :=
  refParse_fin s c (set7 hrb _ _ _ _ _ _ _) h8 h9 (below7 hb hB s) hs hc
theorem refParse_fin7a {proto : Int} {src dst : Nat} {b : ByteArray} {w w5 : World} {rb : Nat} {a0 a1 a2 a3 a4 a5 a6 : Value} {tm : Array Value} {fr : Nat × Nat} (s : Seg) (c : Int) (o : Obj)
    (hrb : w5.heap[rb]? = some (.cells #[a0, a1, a2, a3, a4, a5, a6] 24 fr)) (h8 : tm.getD 8 undef = .pointer (some ⟨rb, 0, none⟩)) (h9 : tm.getD 9 undef = .int .i64 c)
    (hb : Below w.heap.size w w5) (hB : w.heap.size ≤ rb) (hs : parseSeg proto src dst b = s) (hc : (parseCode proto src dst b : Int) = c) :
    bodyPost Try.prog Try.f16 (RefParsePost proto src dst b w) Exit.ret { tmps := tm, defers := [] }
      (World.alloc (((((((w5.setCell ⟨rb, 0, none⟩ (.int .i64 s.sport)).setCell ⟨rb, 1, none⟩ (.int .i64 s.dport)).setCell ⟨rb, 2, none⟩ (.int .u32 s.seq)).setCell ⟨rb, 3, none⟩ (.int .u32 s.ack)).setCell ⟨rb, 4, none⟩ (.int .i64 s.flags)).setCell ⟨rb, 5, none⟩ (.int .i64 s.window)).setCell ⟨rb, 6, none⟩ (.string s.data)) o) :=
  refParse_fin s c (blk_alloc (set7 hrb _ _ _ _ _ _ _) o) h8 h9 ((below7 hb hB s).alloc (below7 hb hB s).size o) hs hc
theorem refShort_ft (b : ByteArray) (i : Nat) (z : Int) (hz : z = i) (w : World) (h : i + 2 ≤ b.size) (hmax : b.size ≤ 3000) :
    Calls Try.prog 56 #[.string b, .int .i64 z] w fun e w' => e = .returned (.int .i64 (rnum (tl b i) 2 : Nat)) ∧ Foot (fun _ => False) w w' := by
  refine (refShort_at b i z hz w h hmax).mono ?_
  rintro e w' ⟨rfl, n, rfl⟩
  exact ⟨rfl, Foot.drewN _ _ _⟩
theorem free7 {w : World} {b : Nat} {cs : Array Value} {T : TypeId} (h : w.heap[b]? = some (.cells cs T (0, 0))) : w.frozen? ⟨b, 0, none⟩ = false ∧ w.frozen? ⟨b, 1, none⟩ = false ∧ w.frozen? ⟨b, 2, none⟩ = false ∧ w.frozen? ⟨b, 3, none⟩ = false ∧ w.frozen? ⟨b, 4, none⟩ = false ∧ w.frozen? ⟨b, 5, none⟩ = false ∧ w.frozen? ⟨b, 6, none⟩ = false :=
  ⟨blk_free h 0, blk_free h 1, blk_free h 2, blk_free h 3, blk_free h 4, blk_free h 5, blk_free h 6⟩

set_option maxHeartbeats 2000000 in
set_option maxRecDepth 100000 in
theorem refParse_no (proto : Int) (src dst : Nat) (b : ByteArray) (w : World) (p6 : proto ≠ 6) (p17 : proto ≠ 17) :
    Calls Try.prog 16 #[.int .i64 proto, .int .u32 src, .int .u32 dst, .string b] w (RefParsePost proto src dst b w) := by
  have hcode : parseCode proto src dst b = 1 := by unfold parseCode; rw [if_neg p6, if_neg p17]
  have hseg : parseSeg proto src dst b = zeroSeg := by unfold parseSeg; rw [if_neg (by rw [hcode]; decide)]
  have HC := Lib.hid hcode; clear hcode
  have HS := Lib.hid hseg; clear hseg
  have e1 : (proto == 6) = false := by simp [p6]
  have e2 : (proto == 17) = false := by simp [p17]
  have e3 : (proto != 6) = true := by simp [p6]
  have e4 : (proto != 17) = true := by simp [p17]
  clear p6 p17
  go_enter Try.func16, Try.ntmps16
  go_wp2
  exact refParse_fin zeroSeg 1 (blk_new w _) rfl rfl ((Below.refl _ _).alloc (Nat.le_refl _) _) HS.out (by rw [HC.out]; rfl)

set_option maxHeartbeats 1000000 in
set_option maxRecDepth 100000 in
theorem refParse_small17 (src dst : Nat) (b : ByteArray) (w : World) (hsrc : src < 4294967296) (hdst : dst < 4294967296) (hmax : b.size ≤ 3000) (hs : b.size < 8) :
    Calls Try.prog 16 #[.int .i64 17, .int .u32 src, .int .u32 dst, .string b] w (RefParsePost 17 src dst b w) := by
  have hcd : parseCode 17 src dst b = 2 := by unfold parseCode; rw [if_neg (by decide), if_pos rfl]; unfold udpCode; rw [if_pos hs]
  have hzs : parseSeg 17 src dst b = zeroSeg := by unfold parseSeg; rw [if_neg (by rw [hcd]; decide)]
  have HCD := Lib.hid hcd; clear hcd
  have HZS := Lib.hid hzs; clear hzs
  have hb0 := blk_new w (.cells #[.int .i64 0, .int .i64 0, .int .u32 0, .int .u32 0, .int .i64 0, .int .i64 0, .string ⟨#[]⟩] 24)
  have hl0 : Below w.heap.size w (w.alloc (.cells #[.int .i64 0, .int .i64 0, .int .u32 0, .int .u32 0, .int .i64 0, .int .i64 0, .string ⟨#[]⟩] 24)) := (Below.refl _ _).alloc (Nat.le_refl _) _
  have HR0 := Lib.hid hb0; clear hb0
  have HL0 := Lib.hid hl0; clear hl0
  obtain ⟨PS, hPS⟩ : ∃ l, l = pseudo src dst 17 (b.size : Int) := ⟨_, rfl⟩
  have hpl : PS.length = 12 := by rw [hPS, pseudo_length]
  have z1 : (str PS).size = 12 := by rw [str_size, hpl]
  have k1 : str PS ++ b = str (PS ++ b.data.toList) := str_add _ _
  have hPA : (PS ++ b.data.toList).length ≤ 1000000 := by rw [List.length_append, hpl, toList_size]; omega
  have hz2 : (b.size : Int) ≤ 3000 := by omega
  have hn : 65535 - refSum (PS ++ b.data.toList) = ofSum (PS ++ b.data.toList) := sums_same _
  have hgd : goodB 17 src dst b = decide (ofSum (PS ++ b.data.toList) = 0) := by unfold goodB; rw [hPS]
  have HGD := Lib.hid hgd; clear hgd
  have HN := Lib.hid hn; clear hn hpl
  go_enter Try.func16, Try.ntmps16
  go_wp2_with (fail)
  refine (refPseudo_str src dst _ _ _ hsrc hdst).mono ?_
  rintro e w1 ⟨rfl, hf1⟩
  rw [← hPS]
  clear hPS
  have hrb1 := hf1.keep HR0.out id
  have hl1 := HL0.out.trans ((Foot.below hf1).mono HL0.out.size)
  have HL1 := Lib.hid hl1; clear hl1 hf1 HL0 HR0
  obtain ⟨d0, d1, d2, d3, d4, d5, d6⟩ := cells7 hrb1
  obtain ⟨r0, r1, r2, r3, r4, r5, r6⟩ := free7 hrb1
  have HR1 := Lib.hid hrb1; clear hrb1
  go_wp2_with (fail)
  refine (refOf_str (PS ++ b.data.toList) _ hPA).mono ?_
  rintro e w2 ⟨rfl, rfl⟩
  rw [HN.out]
  clear k1 z1 HN hPA
  generalize ofSum (PS ++ b.data.toList) = n0 at *
  obtain ⟨gd, hgd⟩ : ∃ gd, gd = goodB 17 src dst b := ⟨_, rfl⟩
  have h8i : (b.size : Int) < 8 := by omega
  go_wp2
  exact refParse_fin7 zeroSeg 2 HR1.out rfl rfl HL1.out (Nat.le_refl _) HZS.out (by rw [HCD.out]; rfl)

set_option maxHeartbeats 1000000 in
set_option maxRecDepth 100000 in
theorem refParse_small6 (src dst : Nat) (b : ByteArray) (w : World) (hsrc : src < 4294967296) (hdst : dst < 4294967296) (hmax : b.size ≤ 3000) (hs : b.size < 20) :
    Calls Try.prog 16 #[.int .i64 6, .int .u32 src, .int .u32 dst, .string b] w (RefParsePost 6 src dst b w) := by
  have hcd : parseCode 6 src dst b = 2 := by unfold parseCode; rw [if_pos rfl]; unfold tcpCode; rw [if_pos hs]
  have hzs : parseSeg 6 src dst b = zeroSeg := by unfold parseSeg; rw [if_neg (by rw [hcd]; decide)]
  have HCD := Lib.hid hcd; clear hcd
  have HZS := Lib.hid hzs; clear hzs
  have hb0 := blk_new w (.cells #[.int .i64 0, .int .i64 0, .int .u32 0, .int .u32 0, .int .i64 0, .int .i64 0, .string ⟨#[]⟩] 24)
  have hl0 : Below w.heap.size w (w.alloc (.cells #[.int .i64 0, .int .i64 0, .int .u32 0, .int .u32 0, .int .i64 0, .int .i64 0, .string ⟨#[]⟩] 24)) := (Below.refl _ _).alloc (Nat.le_refl _) _
  have HR0 := Lib.hid hb0; clear hb0
  have HL0 := Lib.hid hl0; clear hl0
  obtain ⟨PS, hPS⟩ : ∃ l, l = pseudo src dst 6 (b.size : Int) := ⟨_, rfl⟩
  have hpl : PS.length = 12 := by rw [hPS, pseudo_length]
  have z1 : (str PS).size = 12 := by rw [str_size, hpl]
  have k1 : str PS ++ b = str (PS ++ b.data.toList) := str_add _ _
  have hPA : (PS ++ b.data.toList).length ≤ 1000000 := by rw [List.length_append, hpl, toList_size]; omega
  have hz2 : (b.size : Int) ≤ 3000 := by omega
  have hn : 65535 - refSum (PS ++ b.data.toList) = ofSum (PS ++ b.data.toList) := sums_same _
  have hgd : goodB 6 src dst b = decide (ofSum (PS ++ b.data.toList) = 0) := by unfold goodB; rw [hPS]
  have HGD := Lib.hid hgd; clear hgd
  have HN := Lib.hid hn; clear hn hpl
  go_enter Try.func16, Try.ntmps16
  go_wp2_with (fail)
  refine (refPseudo_str src dst _ _ _ hsrc hdst).mono ?_
  rintro e w1 ⟨rfl, hf1⟩
  rw [← hPS]
  clear hPS
  have hrb1 := hf1.keep HR0.out id
  have hl1 := HL0.out.trans ((Foot.below hf1).mono HL0.out.size)
  have HL1 := Lib.hid hl1; clear hl1 hf1 HL0 HR0
  obtain ⟨d0, d1, d2, d3, d4, d5, d6⟩ := cells7 hrb1
  obtain ⟨r0, r1, r2, r3, r4, r5, r6⟩ := free7 hrb1
  have HR1 := Lib.hid hrb1; clear hrb1
  go_wp2_with (fail)
  refine (refOf_str (PS ++ b.data.toList) _ hPA).mono ?_
  rintro e w2 ⟨rfl, rfl⟩
  rw [HN.out]
  clear k1 z1 HN hPA
  generalize ofSum (PS ++ b.data.toList) = n0 at *
  obtain ⟨gd, hgd⟩ : ∃ gd, gd = goodB 6 src dst b := ⟨_, rfl⟩
  by_cases h8 : b.size < 8
  · have h8i : (b.size : Int) < 8 := by omega
    go_wp2
    exact refParse_fin7 zeroSeg 2 HR1.out rfl rfl HL1.out (Nat.le_refl _) HZS.out (by rw [HCD.out]; rfl)
  have h8i : ¬ (b.size : Int) < 8 := by omega
  have h20 : (b.size : Int) < 20 := by omega
  go_wp2
  exact refParse_fin7 zeroSeg 2 HR1.out rfl rfl HL1.out (Nat.le_refl _) HZS.out (by rw [HCD.out]; rfl)

set_option maxHeartbeats 1000000 in
set_option maxRecDepth 100000 in
theorem refParse_udp (src dst : Nat) (b : ByteArray) (w : World) (hsrc : src < 4294967296) (hdst : dst < 4294967296) (hmax : b.size ≤ 3000) (h8 : 8 ≤ b.size) :
    Calls Try.prog 16 #[.int .i64 17, .int .u32 src, .int .u32 dst, .string b] w (RefParsePost 17 src dst b w) := by
  have hb0 := blk_new w (.cells #[.int .i64 0, .int .i64 0, .int .u32 0, .int .u32 0, .int .i64 0, .int .i64 0, .string ⟨#[]⟩] 24)
  have hl0 : Below w.heap.size w (w.alloc (.cells #[.int .i64 0, .int .i64 0, .int .u32 0, .int .u32 0, .int .i64 0, .int .i64 0, .string ⟨#[]⟩] 24)) := (Below.refl _ _).alloc (Nat.le_refl _) _
  have HR0 := Lib.hid hb0; clear hb0
  have HL0 := Lib.hid hl0; clear hl0
  obtain ⟨PS, hPS⟩ : ∃ l, l = pseudo src dst 17 (b.size : Int) := ⟨_, rfl⟩
  have hpl : PS.length = 12 := by rw [hPS, pseudo_length]
  have z1 : (str PS).size = 12 := by rw [str_size, hpl]
  have k1 : str PS ++ b = str (PS ++ b.data.toList) := str_add _ _
  have hPA : (PS ++ b.data.toList).length ≤ 1000000 := by rw [List.length_append, hpl, toList_size]; omega
  have hz2 : (b.size : Int) ≤ 3000 := by omega
  have hn : 65535 - refSum (PS ++ b.data.toList) = ofSum (PS ++ b.data.toList) := sums_same _
  have hgd : goodB 17 src dst b = decide (ofSum (PS ++ b.data.toList) = 0) := by unfold goodB; rw [hPS]
  have HGD := Lib.hid hgd; clear hgd
  have HN := Lib.hid hn; clear hn hpl
  go_enter Try.func16, Try.ntmps16
  go_wp2_with (fail)
  refine (refPseudo_str src dst _ _ _ hsrc hdst).mono ?_
  rintro e w1 ⟨rfl, hf1⟩
  rw [← hPS]
  clear hPS
  have hrb1 := hf1.keep HR0.out id
  have hl1 := HL0.out.trans ((Foot.below hf1).mono HL0.out.size)
  have HL1 := Lib.hid hl1; clear hl1 hf1 HL0 HR0
  obtain ⟨d0, d1, d2, d3, d4, d5, d6⟩ := cells7 hrb1
  obtain ⟨r0, r1, r2, r3, r4, r5, r6⟩ := free7 hrb1
  have HR1 := Lib.hid hrb1; clear hrb1
  go_wp2_with (fail)
  refine (refOf_str (PS ++ b.data.toList) _ hPA).mono ?_
  rintro e w2 ⟨rfl, rfl⟩
  rw [HN.out]
  clear k1 z1 HN hPA
  generalize ofSum (PS ++ b.data.toList) = n0 at *
  obtain ⟨gd, hgd⟩ : ∃ gd, gd = goodB 17 src dst b := ⟨_, rfl⟩
  have h8i : (8 : Int) ≤ b.size := by omega
  have h8n : ¬ (b.size : Int) < 8 := by omega
  go_wp2_with (fail)
  clear d0 d1 d2 d3 d4 d5 d6 r0 r1 r2 r3 r4 r5 r6
  refine (refShort_ft b 0 _ rfl _ (by omega) hmax).mono ?_
  rintro e w2 ⟨rfl, hf2⟩
  have hrb2 := hf2.keep HR1.out id
  have hl2 := HL1.out.trans ((Foot.below hf2).mono HL1.out.size)
  have HL2 := Lib.hid hl2; clear hl2 hf2 HL1 HR1
  obtain ⟨d0, d1, d2, d3, d4, d5, d6⟩ := cells7 hrb2
  obtain ⟨r0, r1, r2, r3, r4, r5, r6⟩ := free7 hrb2
  have HR2 := Lib.hid hrb2; clear hrb2
  go_wp2_with (fail)
  clear d0 d1 d2 d3 d4 d5 d6 r0 r1 r2 r3 r4 r5 r6
  refine (refShort_ft b 2 _ rfl _ (by omega) hmax).mono ?_
  rintro e w3 ⟨rfl, hf3⟩
  have hrb3 := hf3.keep HR2.out id
  have hl3 := HL2.out.trans ((Foot.below hf3).mono HL2.out.size)
  have HL3 := Lib.hid hl3; clear hl3 hf3 HL2 HR2
  obtain ⟨d0, d1, d2, d3, d4, d5, d6⟩ := cells7 hrb3
  obtain ⟨r0, r1, r2, r3, r4, r5, r6⟩ := free7 hrb3
  have HR3 := Lib.hid hrb3; clear hrb3
  go_wp2_with (fail)
  clear d0 d1 d2 d3 d4 d5 d6 r0 r1 r2 r3 r4 r5 r6
  have hsb4 := blk_new w3 (.cells #[.int .i64 (rnum (tl b 0) 2 : Nat), .int .i64 (rnum (tl b 2) 2 : Nat), .int .u32 0, .int .u32 0, .int .i64 0, .int .i64 0, .string ⟨#[]⟩] 24)
  have hrb4 := blk_alloc HR3.out (.cells #[.int .i64 (rnum (tl b 0) 2 : Nat), .int .i64 (rnum (tl b 2) 2 : Nat), .int .u32 0, .int .u32 0, .int .i64 0, .int .i64 0, .string ⟨#[]⟩] 24)
  have hl4 := HL3.out.alloc HL3.out.size (.cells #[.int .i64 (rnum (tl b 0) 2 : Nat), .int .i64 (rnum (tl b 2) 2 : Nat), .int .u32 0, .int .u32 0, .int .i64 0, .int .i64 0, .string ⟨#[]⟩] 24)
  have hB : w.heap.size ≤ w.heap.size := Nat.le_refl _
  have hbs : w.heap.size < w3.heap.size := (Array.getElem?_eq_some_iff.mp HR3.out).1
  clear HR3 HL3
  generalize w3.alloc (.cells #[.int .i64 (rnum (tl b 0) 2 : Nat), .int .i64 (rnum (tl b 2) 2 : Nat), .int .u32 0, .int .u32 0, .int .i64 0, .int .i64 0, .string ⟨#[]⟩] 24) = w4 at *
  generalize w3.heap.size = sb at *
  have HR4 := Lib.hid hrb4; clear hrb4
  have HSB4 := Lib.hid hsb4; clear hsb4
  have HL4 := Lib.hid hl4; clear hl4
  refine (refShort_ft b 4 _ rfl _ (by omega) hmax).mono ?_
  rintro e w5 ⟨rfl, hf5⟩
  have hrb5 := hf5.keep HR4.out id
  have hsb5 := hf5.keep HSB4.out id
  have hl5 := HL4.out.trans ((Foot.below hf5).mono HL4.out.size)
  have HL5 := Lib.hid hl5; clear hl5 hf5 HL4 HR4 HSB4
  obtain ⟨d0, d1, d2, d3, d4, d5, d6⟩ := cells7 hrb5
  obtain ⟨r0, r1, r2, r3, r4, r5, r6⟩ := free7 hrb5
  have HR5 := Lib.hid hrb5; clear hrb5
  obtain ⟨g0, g1, g2, g3, g4, g5, g6⟩ := cells7 hsb5
  obtain ⟨q0, q1, q2, q3, q4, q5, q6⟩ := free7 hsb5
  have HSB5 := Lib.hid hsb5; clear hsb5
  obtain ⟨m, hm⟩ : ∃ m, m = rnum (tl b 4) 2 := ⟨_, rfl⟩
  rw [← hm]
  have HM := Lib.hid hm; clear hm
  have hcd : ∀ c, (if m < 8 then 3 else if b.size < m then 2 else if m < b.size then 5 else if rnum (tl b 6) 2 = 0 then 0 else if goodB 17 src dst b then 0 else 4) = c → parseCode 17 src dst b = c := by
    intro c h; rw [← h, HM.out]; unfold parseCode; rw [if_neg (by decide), if_pos rfl]; unfold udpCode; rw [if_neg (by omega)]
  have hzs : parseCode 17 src dst b ≠ 0 → parseSeg 17 src dst b = zeroSeg := by intro h; unfold parseSeg; rw [if_neg h]
  by_cases c1 : m < 8
  · have c1i : (m : Int) < 8 := by omega
    go_wp2
    exact refParse_fin7 zeroSeg 3 HR5.out rfl rfl HL5.out hB (hzs (by rw [(hcd 3 (by rw [if_pos c1]))]; decide)) (by rw [(hcd 3 (by rw [if_pos c1]))]; rfl)
  have c1i : ¬ (m : Int) < 8 := by omega
  by_cases c2 : b.size < m
  · go_wp2
    exact refParse_fin7 zeroSeg 2 HR5.out rfl rfl HL5.out hB (hzs (by rw [(hcd 2 (by rw [if_neg c1, if_pos c2]))]; decide)) (by rw [(hcd 2 (by rw [if_neg c1, if_pos c2]))]; rfl)
  by_cases c3 : m < b.size
  · have c3g : (b.size : Int) > m := by omega
    go_wp2
    exact refParse_fin7 zeroSeg 5 HR5.out rfl rfl HL5.out hB (hzs (by rw [(hcd 5 (by rw [if_neg c1, if_neg c2, if_pos c3]))]; decide)) (by rw [(hcd 5 (by rw [if_neg c1, if_neg c2, if_pos c3]))]; rfl)
  have c3g : ¬ (b.size : Int) > m := by omega
  go_wp2_with (fail)
  clear d0 d1 d2 d3 d4 d5 d6 r0 r1 r2 r3 r4 r5 r6
  clear g0 g1 g2 g3 g4 g5 g6 q0 q1 q2 q3 q4 q5 q6
  refine (refShort_ft b 6 _ rfl _ (by omega) hmax).mono ?_
  rintro e w6 ⟨rfl, hf6⟩
  have hrb6 := hf6.keep HR5.out id
  have hsb6 := hf6.keep HSB5.out id
  have hl6 := HL5.out.trans ((Foot.below hf6).mono HL5.out.size)
  have HL6 := Lib.hid hl6; clear hl6 hf6 HL5 HR5 HSB5
  obtain ⟨d0, d1, d2, d3, d4, d5, d6⟩ := cells7 hrb6
  obtain ⟨r0, r1, r2, r3, r4, r5, r6⟩ := free7 hrb6
  have HR6 := Lib.hid hrb6; clear hrb6
  obtain ⟨g0, g1, g2, g3, g4, g5, g6⟩ := cells7 hsb6
  obtain ⟨q0, q1, q2, q3, q4, q5, q6⟩ := free7 hsb6
  have HSB6 := Lib.hid hsb6; clear hsb6
  obtain ⟨u, hu⟩ : ∃ u, u = rnum (tl b 6) 2 := ⟨_, rfl⟩
  rw [← hu]
  rw [← hu] at hcd
  clear hu
  have huS : parseCode 17 src dst b = 0 → parseSeg 17 src dst b = udpSeg b := by intro h; unfold parseSeg; rw [if_pos h, if_neg (by decide)]
  by_cases c4 : u = 0
  · have c4b : ((u : Int) != 0) = false := by rw [c4]; rfl
    have HCD := Lib.hid (hcd 0 (by rw [if_neg c1, if_neg c2, if_neg c3, if_pos c4]))
    go_wp2
    exact refParse_fin7 (udpSeg b) 0 (blk_set_ne HR6.out _ (Nat.ne_of_lt hbs)) rfl rfl (HL6.out.setCell (p := ⟨sb, 6, none⟩) (Nat.le_of_lt hbs) _) hB (huS HCD.out) (by rw [HCD.out]; rfl)
  have c4b : ((u : Int) != 0) = true := by rw [bne_iff_ne]; omega
  by_cases c5 : n0 = 0
  · have HCD := Lib.hid (hcd 0 (by rw [if_neg c1, if_neg c2, if_neg c3, if_neg c4, if_pos (by rw [HGD.out]; exact decide_eq_true c5)]))
    have c5b : ((n0 : Int) == 0) = true := by rw [c5]; rfl
    go_wp2
    exact refParse_fin7 (udpSeg b) 0 (blk_set_ne HR6.out _ (Nat.ne_of_lt hbs)) rfl rfl (HL6.out.setCell (p := ⟨sb, 6, none⟩) (Nat.le_of_lt hbs) _) hB (huS HCD.out) (by rw [HCD.out]; rfl)
  · have HCD := Lib.hid (hcd 4 (by rw [if_neg c1, if_neg c2, if_neg c3, if_neg c4, if_neg (by rw [HGD.out]; simp [c5])]))
    have c5b : ((n0 : Int) == 0) = false := by rw [beq_eq_false_iff_ne]; omega
    go_wp2
    exact refParse_fin7 zeroSeg 4 HR6.out rfl rfl HL6.out hB (hzs (by rw [HCD.out]; decide)) (by rw [HCD.out]; rfl)

set_option maxHeartbeats 1000000 in
set_option maxRecDepth 100000 in
theorem refParse_tcp (src dst : Nat) (b : ByteArray) (w : World) (hsrc : src < 4294967296) (hdst : dst < 4294967296) (hmax : b.size ≤ 3000) (h20 : 20 ≤ b.size) :
    Calls Try.prog 16 #[.int .i64 6, .int .u32 src, .int .u32 dst, .string b] w (RefParsePost 6 src dst b w) := by
  have hb0 := blk_new w (.cells #[.int .i64 0, .int .i64 0, .int .u32 0, .int .u32 0, .int .i64 0, .int .i64 0, .string ⟨#[]⟩] 24)
  have hl0 : Below w.heap.size w (w.alloc (.cells #[.int .i64 0, .int .i64 0, .int .u32 0, .int .u32 0, .int .i64 0, .int .i64 0, .string ⟨#[]⟩] 24)) := (Below.refl _ _).alloc (Nat.le_refl _) _
  have HR0 := Lib.hid hb0; clear hb0
  have HL0 := Lib.hid hl0; clear hl0
  obtain ⟨PS, hPS⟩ : ∃ l, l = pseudo src dst 6 (b.size : Int) := ⟨_, rfl⟩
  have hpl : PS.length = 12 := by rw [hPS, pseudo_length]
  have z1 : (str PS).size = 12 := by rw [str_size, hpl]
  have k1 : str PS ++ b = str (PS ++ b.data.toList) := str_add _ _
  have hPA : (PS ++ b.data.toList).length ≤ 1000000 := by rw [List.length_append, hpl, toList_size]; omega
  have hz2 : (b.size : Int) ≤ 3000 := by omega
  have hn : 65535 - refSum (PS ++ b.data.toList) = ofSum (PS ++ b.data.toList) := sums_same _
  have hgd : goodB 6 src dst b = decide (ofSum (PS ++ b.data.toList) = 0) := by unfold goodB; rw [hPS]
  have HGD := Lib.hid hgd; clear hgd
  have HN := Lib.hid hn; clear hn hpl
  go_enter Try.func16, Try.ntmps16
  go_wp2_with (fail)
  refine (refPseudo_str src dst _ _ _ hsrc hdst).mono ?_
  rintro e w1 ⟨rfl, hf1⟩
  rw [← hPS]
  clear hPS
  have hrb1 := hf1.keep HR0.out id
  have hl1 := HL0.out.trans ((Foot.below hf1).mono HL0.out.size)
  have HL1 := Lib.hid hl1; clear hl1 hf1 HL0 HR0
  obtain ⟨d0, d1, d2, d3, d4, d5, d6⟩ := cells7 hrb1
  obtain ⟨r0, r1, r2, r3, r4, r5, r6⟩ := free7 hrb1
  have HR1 := Lib.hid hrb1; clear hrb1
  go_wp2_with (fail)
  refine (refOf_str (PS ++ b.data.toList) _ hPA).mono ?_
  rintro e w2 ⟨rfl, rfl⟩
  rw [HN.out]
  clear k1 z1 HN hPA
  generalize ofSum (PS ++ b.data.toList) = n0 at *
  obtain ⟨gd, hgd⟩ : ∃ gd, gd = goodB 6 src dst b := ⟨_, rfl⟩
  have h8n : ¬ (b.size : Int) < 8 := by omega
  have h20n : ¬ (b.size : Int) < 20 := by omega
  go_wp2_with (fail)
  clear d0 d1 d2 d3 d4 d5 d6 r0 r1 r2 r3 r4 r5 r6
  refine (refShort_ft b 0 _ rfl _ (by omega) hmax).mono ?_
  rintro e w2 ⟨rfl, hf2⟩
  have hrb2 := hf2.keep HR1.out id
  have hl2 := HL1.out.trans ((Foot.below hf2).mono HL1.out.size)
  have HL2 := Lib.hid hl2; clear hl2 hf2 HL1 HR1
  obtain ⟨d0, d1, d2, d3, d4, d5, d6⟩ := cells7 hrb2
  obtain ⟨r0, r1, r2, r3, r4, r5, r6⟩ := free7 hrb2
  have HR2 := Lib.hid hrb2; clear hrb2
  go_wp2_with (fail)
  clear d0 d1 d2 d3 d4 d5 d6 r0 r1 r2 r3 r4 r5 r6
  refine (refShort_ft b 2 _ rfl _ (by omega) hmax).mono ?_
  rintro e w3 ⟨rfl, hf3⟩
  have hrb3 := hf3.keep HR2.out id
  have hl3 := HL2.out.trans ((Foot.below hf3).mono HL2.out.size)
  have HL3 := Lib.hid hl3; clear hl3 hf3 HL2 HR2
  obtain ⟨d0, d1, d2, d3, d4, d5, d6⟩ := cells7 hrb3
  obtain ⟨r0, r1, r2, r3, r4, r5, r6⟩ := free7 hrb3
  have HR3 := Lib.hid hrb3; clear hrb3
  clear d0 d1 d2 d3 d4 d5 d6 r0 r1 r2 r3 r4 r5 r6
  have hA := blk_alloc HR3.out (.cells #[.int .i64 (rnum (tl b 0) 2 : Nat), .int .i64 (rnum (tl b 2) 2 : Nat), .int .u32 0, .int .u32 0, .int .i64 0, .int .i64 0, .string ⟨#[]⟩] 24)
  obtain ⟨d0, d1, d2, d3, d4, d5, d6⟩ := cells7 hA
  obtain ⟨r0, r1, r2, r3, r4, r5, r6⟩ := free7 hA
  have HA := Lib.hid hA; clear hA
  have hLA := HL3.out.alloc HL3.out.size (.cells #[.int .i64 (rnum (tl b 0) 2 : Nat), .int .i64 (rnum (tl b 2) 2 : Nat), .int .u32 0, .int .u32 0, .int .i64 0, .int .i64 0, .string ⟨#[]⟩] 24)
  have HLA := Lib.hid hLA; clear hLA
  have hi12 : 12 < b.size := by omega
  have hi13 : 13 < b.size := by omega
  have ix12 := fun u => index_u8 b 12 12 rfl hi12 u
  have ix13 := fun u => index_u8 b 13 13 rfl hi13 u
  have hxl := rnum_one_lt b 12 hi12
  have hyl := rnum_one_lt b 13 hi13
  obtain ⟨x, hx'⟩ : ∃ x, rnum (tl b 12) 1 = x := ⟨_, rfl⟩
  obtain ⟨y, hy'⟩ : ∃ y, rnum (tl b 13) 1 = y := ⟨_, rfl⟩
  rw [hx'] at ix12 hxl
  rw [hy'] at ix13 hyl
  obtain ⟨q, hq⟩ : ∃ q, q = x / 16 := ⟨_, rfl⟩
  have hql : q < 16 := by omega
  obtain ⟨m, hm⟩ : ∃ m, m = q * 4 := ⟨_, rfl⟩
  obtain ⟨f, hf⟩ : ∃ f, f = y % 64 := ⟨_, rfl⟩
  have hcd : ∀ c, (if q < 5 then 3 else if b.size < m then 2 else if goodB 6 src dst b then 0 else 4) = c → parseCode 6 src dst b = c := by
    intro c h; rw [← h]; unfold parseCode; rw [if_pos rfl]; unfold tcpCode; rw [if_neg (by omega), hx', ← hq, ← hm]
  have hseg : parseCode 6 src dst b = 0 → parseSeg 6 src dst b = ⟨(rnum (tl b 0) 2 : Nat), (rnum (tl b 2) 2 : Nat), ((rnum (tl b 4) 2 : Nat) : Int) * 65536 + ((rnum (tl b 6) 2 : Nat) : Int), ((rnum (tl b 8) 2 : Nat) : Int) * 65536 + ((rnum (tl b 10) 2 : Nat) : Int), (f : Nat), (rnum (tl b 14) 2 : Nat), tl b m⟩ := by
    intro h; unfold parseSeg; rw [if_pos h, if_pos rfl]; unfold tcpSeg; rw [rnum_four b 4 (by omega), rnum_four b 8 (by omega), hx', hy', ← hq, ← hm, ← hf]; simp only [Int.natCast_add, Int.natCast_mul]; rfl
  have c20 : q < 5 ↔ m < 20 := by omega
  obtain ⟨hw1, hq1, hw2, hw3⟩ := nib_facts x q hq hxl
  have hm60 : m ≤ 60 := by omega
  obtain ⟨hy1, hy2, hy3⟩ := low_facts y hyl
  rw [← hm] at hw3
  rw [← hf] at hy2 hy3
  clear hx' hy' hq hm hf
  have hzs : parseCode 6 src dst b ≠ 0 → parseSeg 6 src dst b = zeroSeg := by intro h; unfold parseSeg; rw [if_neg h]
  by_cases c1 : q < 5
  · have c1i : (m : Int) < 20 := by omega
    have HCD := Lib.hid (hcd 3 (by rw [if_pos c1]))
    go_wp2
    exact refParse_fin7 zeroSeg 3 HA.out rfl rfl HLA.out (Nat.le_refl _) (hzs (by rw [HCD.out]; decide)) (by rw [HCD.out]; rfl)
  have c1i : ¬ (m : Int) < 20 := by omega
  by_cases c2 : b.size < m
  · have HCD := Lib.hid (hcd 2 (by rw [if_neg c1, if_pos c2]))
    go_wp2
    exact refParse_fin7 zeroSeg 2 HA.out rfl rfl HLA.out (Nat.le_refl _) (hzs (by rw [HCD.out]; decide)) (by rw [HCD.out]; rfl)
  by_cases c5 : n0 = 0
  rotate_left
  · have c5b : ((n0 : Int) == 0) = false := by rw [beq_eq_false_iff_ne]; omega
    have HCD := Lib.hid (hcd 4 (by rw [if_neg c1, if_neg c2, if_neg (by rw [HGD.out]; simp [c5])]))
    go_wp2
    exact refParse_fin7 zeroSeg 4 HA.out rfl rfl HLA.out (Nat.le_refl _) (hzs (by rw [HCD.out]; decide)) (by rw [HCD.out]; rfl)
  have c5b : ((n0 : Int) == 0) = true := by rw [c5]; rfl
  have HCD := Lib.hid (hcd 0 (by rw [if_neg c1, if_neg c2, if_pos (by rw [HGD.out]; exact decide_eq_true c5)]))
  go_wp2_with (fail)
  clear d0 d1 d2 d3 d4 d5 d6 r0 r1 r2 r3 r4 r5 r6
  have hsb4 := blk_new w3 (.cells #[.int .i64 (rnum (tl b 0) 2 : Nat), .int .i64 (rnum (tl b 2) 2 : Nat), .int .u32 0, .int .u32 0, .int .i64 0, .int .i64 0, .string ⟨#[]⟩] 24)
  have hrb4 := blk_alloc HR3.out (.cells #[.int .i64 (rnum (tl b 0) 2 : Nat), .int .i64 (rnum (tl b 2) 2 : Nat), .int .u32 0, .int .u32 0, .int .i64 0, .int .i64 0, .string ⟨#[]⟩] 24)
  have hl4 := HL3.out.alloc HL3.out.size (.cells #[.int .i64 (rnum (tl b 0) 2 : Nat), .int .i64 (rnum (tl b 2) 2 : Nat), .int .u32 0, .int .u32 0, .int .i64 0, .int .i64 0, .string ⟨#[]⟩] 24)
  have hB : w.heap.size ≤ w.heap.size := Nat.le_refl _
  have hbs : w.heap.size < w3.heap.size := (Array.getElem?_eq_some_iff.mp HR3.out).1
  clear HR3 HL3
  generalize w3.alloc (.cells #[.int .i64 (rnum (tl b 0) 2 : Nat), .int .i64 (rnum (tl b 2) 2 : Nat), .int .u32 0, .int .u32 0, .int .i64 0, .int .i64 0, .string ⟨#[]⟩] 24) = w4 at *
  generalize w3.heap.size = sb at *
  have HR4 := Lib.hid hrb4; clear hrb4
  have HSB4 := Lib.hid hsb4; clear hsb4
  have HL4 := Lib.hid hl4; clear hl4
  refine (refShort_ft b 4 _ rfl _ (by omega) hmax).mono ?_
  rintro e w5 ⟨rfl, hf5⟩
  have hrb5 := hf5.keep HR4.out id
  have hsb5 := hf5.keep HSB4.out id
  have hl5 := HL4.out.trans ((Foot.below hf5).mono HL4.out.size)
  have HL5 := Lib.hid hl5; clear hl5 hf5 HL4 HR4 HSB4
  obtain ⟨d0, d1, d2, d3, d4, d5, d6⟩ := cells7 hrb5
  obtain ⟨r0, r1, r2, r3, r4, r5, r6⟩ := free7 hrb5
  have HR5 := Lib.hid hrb5; clear hrb5
  obtain ⟨g0, g1, g2, g3, g4, g5, g6⟩ := cells7 hsb5
  obtain ⟨q0, q1, q2, q3, q4, q5, q6⟩ := free7 hsb5
  have HSB5 := Lib.hid hsb5; clear hsb5
  have hs4 := rnum2_le b 4 (by omega)
  generalize hg4 : rnum (tl b 4) 2 = s4 at *
  clear hg4
  go_wp2_with (fail)
  clear d0 d1 d2 d3 d4 d5 d6 r0 r1 r2 r3 r4 r5 r6
  clear g0 g1 g2 g3 g4 g5 g6 q0 q1 q2 q3 q4 q5 q6
  refine (refShort_ft b 6 _ rfl _ (by omega) hmax).mono ?_
  rintro e w6 ⟨rfl, hf6⟩
  have hrb6 := hf6.keep HR5.out id
  have hsb6 := hf6.keep HSB5.out id
  have hl6 := HL5.out.trans ((Foot.below hf6).mono HL5.out.size)
  have HL6 := Lib.hid hl6; clear hl6 hf6 HL5 HR5 HSB5
  obtain ⟨d0, d1, d2, d3, d4, d5, d6⟩ := cells7 hrb6
  obtain ⟨r0, r1, r2, r3, r4, r5, r6⟩ := free7 hrb6
  have HR6 := Lib.hid hrb6; clear hrb6
  obtain ⟨g0, g1, g2, g3, g4, g5, g6⟩ := cells7 hsb6
  obtain ⟨q0, q1, q2, q3, q4, q5, q6⟩ := free7 hsb6
  have HSB6 := Lib.hid hsb6; clear hsb6
  have hs6 := rnum2_le b 6 (by omega)
  generalize hg6 : rnum (tl b 6) 2 = s6 at *
  clear hg6
  go_wp2_with (fail)
  clear d0 d1 d2 d3 d4 d5 d6 r0 r1 r2 r3 r4 r5 r6
  clear g0 g1 g2 g3 g4 g5 g6 q0 q1 q2 q3 q4 q5 q6
  have hsb7 : (w6.setCell ⟨sb, 2, none⟩ (.int .u32 ((s4 : Int) * 65536 + (s6 : Int)))).heap[sb]? = some (.cells #[(.int .i64 (rnum (tl b 0) 2 : Nat)), (.int .i64 (rnum (tl b 2) 2 : Nat)), (.int .u32 ((s4 : Int) * 65536 + (s6 : Int))), (.int .u32 0), (.int .i64 0), (.int .i64 0), (.string ⟨#[]⟩)] 24 (0, 0)) := (blk_set HSB6.out 2 (.int .u32 ((s4 : Int) * 65536 + (s6 : Int)))).trans rfl
  have hrb7 := blk_set_ne HR6.out (p := ⟨sb, 2, none⟩) (.int .u32 ((s4 : Int) * 65536 + (s6 : Int))) (Nat.ne_of_lt hbs)
  have hl7 := HL6.out.setCell (p := ⟨sb, 2, none⟩) (Nat.le_of_lt hbs) (.int .u32 ((s4 : Int) * 65536 + (s6 : Int)))
  clear HR6 HL6 HSB6
  generalize w6.setCell ⟨sb, 2, none⟩ (.int .u32 ((s4 : Int) * 65536 + (s6 : Int))) = w7 at *
  have HR7 := Lib.hid hrb7; clear hrb7
  have HSB7 := Lib.hid hsb7; clear hsb7
  have HL7 := Lib.hid hl7; clear hl7
  refine (refShort_ft b 8 _ rfl _ (by omega) hmax).mono ?_
  rintro e w8 ⟨rfl, hf8⟩
  have hrb8 := hf8.keep HR7.out id
  have hsb8 := hf8.keep HSB7.out id
  have hl8 := HL7.out.trans ((Foot.below hf8).mono HL7.out.size)
  have HL8 := Lib.hid hl8; clear hl8 hf8 HL7 HR7 HSB7
  obtain ⟨d0, d1, d2, d3, d4, d5, d6⟩ := cells7 hrb8
  obtain ⟨r0, r1, r2, r3, r4, r5, r6⟩ := free7 hrb8
  have HR8 := Lib.hid hrb8; clear hrb8
  obtain ⟨g0, g1, g2, g3, g4, g5, g6⟩ := cells7 hsb8
  obtain ⟨q0, q1, q2, q3, q4, q5, q6⟩ := free7 hsb8
  have HSB8 := Lib.hid hsb8; clear hsb8
  have hs8 := rnum2_le b 8 (by omega)
  generalize hg8 : rnum (tl b 8) 2 = s8 at *
  clear hg8
  go_wp2_with (fail)
  clear d0 d1 d2 d3 d4 d5 d6 r0 r1 r2 r3 r4 r5 r6
  clear g0 g1 g2 g3 g4 g5 g6 q0 q1 q2 q3 q4 q5 q6
  refine (refShort_ft b 10 _ rfl _ (by omega) hmax).mono ?_
  rintro e w9 ⟨rfl, hf9⟩
  have hrb9 := hf9.keep HR8.out id
  have hsb9 := hf9.keep HSB8.out id
  have hl9 := HL8.out.trans ((Foot.below hf9).mono HL8.out.size)
  have HL9 := Lib.hid hl9; clear hl9 hf9 HL8 HR8 HSB8
  obtain ⟨d0, d1, d2, d3, d4, d5, d6⟩ := cells7 hrb9
  obtain ⟨r0, r1, r2, r3, r4, r5, r6⟩ := free7 hrb9
  have HR9 := Lib.hid hrb9; clear hrb9
  obtain ⟨g0, g1, g2, g3, g4, g5, g6⟩ := cells7 hsb9
  obtain ⟨q0, q1, q2, q3, q4, q5, q6⟩ := free7 hsb9
  have HSB9 := Lib.hid hsb9; clear hsb9
  have hs10 := rnum2_le b 10 (by omega)
  generalize hg10 : rnum (tl b 10) 2 = s10 at *
  clear hg10
  go_wp2_with (fail)
  clear d0 d1 d2 d3 d4 d5 d6 r0 r1 r2 r3 r4 r5 r6
  clear g0 g1 g2 g3 g4 g5 g6 q0 q1 q2 q3 q4 q5 q6
  have hsb10 : (w9.setCell ⟨sb, 3, none⟩ (.int .u32 ((s8 : Int) * 65536 + (s10 : Int)))).heap[sb]? = some (.cells #[(.int .i64 (rnum (tl b 0) 2 : Nat)), (.int .i64 (rnum (tl b 2) 2 : Nat)), (.int .u32 ((s4 : Int) * 65536 + (s6 : Int))), (.int .u32 ((s8 : Int) * 65536 + (s10 : Int))), (.int .i64 0), (.int .i64 0), (.string ⟨#[]⟩)] 24 (0, 0)) := (blk_set HSB9.out 3 (.int .u32 ((s8 : Int) * 65536 + (s10 : Int)))).trans rfl
  have hrb10 := blk_set_ne HR9.out (p := ⟨sb, 3, none⟩) (.int .u32 ((s8 : Int) * 65536 + (s10 : Int))) (Nat.ne_of_lt hbs)
  have hl10 := HL9.out.setCell (p := ⟨sb, 3, none⟩) (Nat.le_of_lt hbs) (.int .u32 ((s8 : Int) * 65536 + (s10 : Int)))
  clear HR9 HL9 HSB9
  generalize w9.setCell ⟨sb, 3, none⟩ (.int .u32 ((s8 : Int) * 65536 + (s10 : Int))) = w10 at *
  have HR10 := Lib.hid hrb10; clear hrb10
  have HSB10 := Lib.hid hsb10; clear hsb10
  have HL10 := Lib.hid hl10; clear hl10
  have hsb11 : (w10.setCell ⟨sb, 4, none⟩ (.int .i64 (f : Int))).heap[sb]? = some (.cells #[(.int .i64 (rnum (tl b 0) 2 : Nat)), (.int .i64 (rnum (tl b 2) 2 : Nat)), (.int .u32 ((s4 : Int) * 65536 + (s6 : Int))), (.int .u32 ((s8 : Int) * 65536 + (s10 : Int))), (.int .i64 (f : Int)), (.int .i64 0), (.string ⟨#[]⟩)] 24 (0, 0)) := (blk_set HSB10.out 4 (.int .i64 (f : Int))).trans rfl
  have hrb11 := blk_set_ne HR10.out (p := ⟨sb, 4, none⟩) (.int .i64 (f : Int)) (Nat.ne_of_lt hbs)
  have hl11 := HL10.out.setCell (p := ⟨sb, 4, none⟩) (Nat.le_of_lt hbs) (.int .i64 (f : Int))
  clear HR10 HL10 HSB10
  generalize w10.setCell ⟨sb, 4, none⟩ (.int .i64 (f : Int)) = w11 at *
  have HR11 := Lib.hid hrb11; clear hrb11
  have HSB11 := Lib.hid hsb11; clear hsb11
  have HL11 := Lib.hid hl11; clear hl11
  refine (refShort_ft b 14 _ rfl _ (by omega) hmax).mono ?_
  rintro e w12 ⟨rfl, hf12⟩
  have hrb12 := hf12.keep HR11.out id
  have hsb12 := hf12.keep HSB11.out id
  have hl12 := HL11.out.trans ((Foot.below hf12).mono HL11.out.size)
  have HL12 := Lib.hid hl12; clear hl12 hf12 HL11 HR11 HSB11
  obtain ⟨d0, d1, d2, d3, d4, d5, d6⟩ := cells7 hrb12
  obtain ⟨r0, r1, r2, r3, r4, r5, r6⟩ := free7 hrb12
  have HR12 := Lib.hid hrb12; clear hrb12
  obtain ⟨g0, g1, g2, g3, g4, g5, g6⟩ := cells7 hsb12
  obtain ⟨q0, q1, q2, q3, q4, q5, q6⟩ := free7 hsb12
  have HSB12 := Lib.hid hsb12; clear hsb12
  go_wp2
  exact refParse_fin7 ⟨(rnum (tl b 0) 2 : Nat), (rnum (tl b 2) 2 : Nat), (s4 : Int) * 65536 + (s6 : Int), (s8 : Int) * 65536 + (s10 : Int), (f : Nat), (rnum (tl b 14) 2 : Nat), tl b m⟩ 0 (w5 := (w12.setCell ⟨sb, 5, none⟩ (.int .i64 (rnum (tl b 14) 2 : Nat))).setCell ⟨sb, 6, none⟩ (.string (tl b m))) (blk_set_ne (blk_set_ne HR12.out _ (Nat.ne_of_lt hbs)) _ (Nat.ne_of_lt hbs)) rfl rfl ((HL12.out.setCell (p := ⟨sb, 5, none⟩) (Nat.le_of_lt hbs) _).setCell (p := ⟨sb, 6, none⟩) (Nat.le_of_lt hbs) _) hB (hseg HCD.out) (by rw [HCD.out]; rfl)

end Go.Proofs.Ytcmgfmpmapnckaa
