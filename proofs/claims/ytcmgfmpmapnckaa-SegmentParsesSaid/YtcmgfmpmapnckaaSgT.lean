/- Walks of segment.Parse and segment.Ports. -/
import Derived.Test.YtcmgfmpmapnckaaSgQ
namespace Go.Proofs.Ytcmgfmpmapnckaa
open Go.RowKit
set_option linter.unusedVariables false
set_option linter.unusedSimpArgs false

/-- Are bytes good, behind their pseudo bytes? -/
def goodB (proto : Int) (src dst : Nat) (b : ByteArray) : Bool := decide (ofSum (pseudo src dst proto b.size ++ b.data.toList) = 0)
def zeroSeg : Seg := ⟨0, 0, 0, 0, 0, 0, ⟨#[]⟩⟩
def parseCode (proto : Int) (src dst : Nat) (b : ByteArray) : Nat :=
  if proto = 6 then tcpCode b (goodB proto src dst b) else if proto = 17 then udpCode b (goodB proto src dst b) else 1
def parseSeg (proto : Int) (src dst : Nat) (b : ByteArray) : Seg :=
  if parseCode proto src dst b = 0 then (if proto = 6 then tcpSeg b else udpSeg b) else zeroSeg

def ParsePost (proto : Int) (src dst : Nat) (b : ByteArray) (w : World) (e : Ending) (w' : World) : Prop :=
  e = .returned (.tuple #[.agg (parseSeg proto src dst b).cells, .int .i64 (parseCode proto src dst b : Nat)]) ∧ Below w.heap.size w w'

theorem alloc_size (w : World) (o : Obj) : (w.alloc o).heap.size = w.heap.size + 1 := by simp

theorem codeNe {c : Nat} (h : c ≠ 0) : ((c : Int) == 0) = false ∧ ((c : Int) != 0) = true := ⟨by simp; omega, by rw [bne_iff_ne]; omega⟩

theorem parTcp_all (pb rb : Nat) (b : ByteArray) (g : Bool) (w : World) (h : PAt w pb rb b g ⟨0, 0, 0, 0, 0, 0, ⟨#[]⟩⟩ (tl b 0)) (hmax : b.size ≤ maxLen) :
    Calls Try.prog 50 #[.pointer (some ⟨pb, 0, none⟩)] w (TcpPost pb rb b g w) := by
  by_cases hb : b.size < 20
  · exact parTcp_short pb rb b g w h hb
  · exact parTcp_any pb rb b g w h (by omega) hmax
theorem parUdp_all (pb rb : Nat) (b : ByteArray) (g : Bool) (w : World) (h : PAt w pb rb b g ⟨0, 0, 0, 0, 0, 0, ⟨#[]⟩⟩ (tl b 0)) (hmax : b.size ≤ maxLen) :
    Calls Try.prog 51 #[.pointer (some ⟨pb, 0, none⟩)] w (UdpPost pb rb b g w) := by
  by_cases hb : b.size < 8
  · exact parUdp_short pb rb b g w h hb
  · exact parUdp_any pb rb b g w h (by omega) hmax

theorem set7 {w : World} {b : Nat} {a0 a1 a2 a3 a4 a5 a6 : Value} {T : TypeId} {fr : Nat × Nat} (h : w.heap[b]? = some (.cells #[a0, a1, a2, a3, a4, a5, a6] T fr)) (v0 v1 v2 v3 v4 v5 v6 : Value) :
    (((((((w.setCell ⟨b, 0, none⟩ v0).setCell ⟨b, 1, none⟩ v1).setCell ⟨b, 2, none⟩ v2).setCell ⟨b, 3, none⟩ v3).setCell ⟨b, 4, none⟩ v4).setCell ⟨b, 5, none⟩ v5).setCell ⟨b, 6, none⟩ v6).heap[b]? = some (.cells #[v0, v1, v2, v3, v4, v5, v6] T fr) := by
  have e0 : (w.setCell ⟨b, 0, none⟩ v0).heap[b]? = some (.cells #[v0, a1, a2, a3, a4, a5, a6] T fr) := (blk_set h 0 v0).trans rfl
  generalize w.setCell ⟨b, 0, none⟩ v0 = w0 at *
  have e1 : (w0.setCell ⟨b, 1, none⟩ v1).heap[b]? = some (.cells #[v0, v1, a2, a3, a4, a5, a6] T fr) := (blk_set e0 1 v1).trans rfl
  generalize w0.setCell ⟨b, 1, none⟩ v1 = w1 at *
  have e2 : (w1.setCell ⟨b, 2, none⟩ v2).heap[b]? = some (.cells #[v0, v1, v2, a3, a4, a5, a6] T fr) := (blk_set e1 2 v2).trans rfl
  generalize w1.setCell ⟨b, 2, none⟩ v2 = w2 at *
  have e3 : (w2.setCell ⟨b, 3, none⟩ v3).heap[b]? = some (.cells #[v0, v1, v2, v3, a4, a5, a6] T fr) := (blk_set e2 3 v3).trans rfl
  generalize w2.setCell ⟨b, 3, none⟩ v3 = w3 at *
  have e4 : (w3.setCell ⟨b, 4, none⟩ v4).heap[b]? = some (.cells #[v0, v1, v2, v3, v4, a5, a6] T fr) := (blk_set e3 4 v4).trans rfl
  generalize w3.setCell ⟨b, 4, none⟩ v4 = w4 at *
  have e5 : (w4.setCell ⟨b, 5, none⟩ v5).heap[b]? = some (.cells #[v0, v1, v2, v3, v4, v5, a6] T fr) := (blk_set e4 5 v5).trans rfl
  generalize w4.setCell ⟨b, 5, none⟩ v5 = w5 at *
  have e6 : (w5.setCell ⟨b, 6, none⟩ v6).heap[b]? = some (.cells #[v0, v1, v2, v3, v4, v5, v6] T fr) := (blk_set e5 6 v6).trans rfl
  generalize w5.setCell ⟨b, 6, none⟩ v6 = w6 at *
  exact e6

set_option maxHeartbeats 1000000 in
theorem parse_fin0 {proto : Int} {src dst : Nat} {b : ByteArray} {w w6 : World} {rb : Nat} {tm : Array Value} {fr : Nat × Nat} (s : Seg) (c : Int)
    (hset : w6.heap[rb]? = some (.cells s.cells 24 fr)) (h8 : tm.getD 8 undef = .pointer (some ⟨rb, 0, none⟩)) (h9 : tm.getD 9 undef = .int .i64 c)
    (hbel : Below w.heap.size w w6) (hs : parseSeg proto src dst b = s) (hc : (parseCode proto src dst b : Int) = c) :
    bodyPost Try.prog Try.f14 (ParsePost proto src dst b w) Exit.ret { tmps := tm, defers := [] } w6 := by
  obtain ⟨d0, d1, d2, d3, d4, d5, d6⟩ := cells7 hset
  have h8' := h8; have h9' := h9
  rw [Array.getD_eq_getD_getElem?] at h8' h9'
  subst hs
  refine bodyPost_ret (v := .tuple #[.agg (parseSeg proto src dst b).cells, .int .i64 c]) ?_ rfl ⟨by rw [hc], hbel⟩
  generalize parseSeg proto src dst b = s at *
  clear hbel hset hc
  simp [results, Try.results14, go_sem, Seg.cells, h8, h9, h8', h9', d0, d1, d2, d3, d4, d5, d6]

theorem below7 {w w5 : World} {rb : Nat} (hb : Below w.heap.size w w5) (hB : w.heap.size ≤ rb) (s : Seg) : Below w.heap.size w (((((((w5.setCell ⟨rb, 0, none⟩ (.int .i64 s.sport)).setCell ⟨rb, 1, none⟩ (.int .i64 s.dport)).setCell ⟨rb, 2, none⟩ (.int .u32 s.seq)).setCell ⟨rb, 3, none⟩ (.int .u32 s.ack)).setCell ⟨rb, 4, none⟩ (.int .i64 s.flags)).setCell ⟨rb, 5, none⟩ (.int .i64 s.window)).setCell ⟨rb, 6, none⟩ (.string s.data)) :=
  ((((((hb.setCell (p := ⟨rb, 0, none⟩) hB _).setCell (p := ⟨rb, 1, none⟩) hB _).setCell (p := ⟨rb, 2, none⟩) hB _).setCell (p := ⟨rb, 3, none⟩) hB _).setCell (p := ⟨rb, 4, none⟩) hB _).setCell (p := ⟨rb, 5, none⟩) hB _).setCell (p := ⟨rb, 6, none⟩) hB _

theorem parse_fin {proto : Int} {src dst : Nat} {b : ByteArray} {w w5 : World} {rb : Nat} {a0 a1 a2 a3 a4 a5 a6 : Value} {tm : Array Value} {fr : Nat × Nat} (s : Seg) (c : Int)
    (hrb : w5.heap[rb]? = some (.cells #[a0, a1, a2, a3, a4, a5, a6] 24 fr)) (h8 : tm.getD 8 undef = .pointer (some ⟨rb, 0, none⟩)) (h9 : tm.getD 9 undef = .int .i64 c)
    (hb : Below w.heap.size w w5) (hB : w.heap.size ≤ rb) (hs : parseSeg proto src dst b = s) (hc : (parseCode proto src dst b : Int) = c) :
    bodyPost Try.prog Try.f14 (ParsePost proto src dst b w) Exit.ret { tmps := tm, defers := [] }
      (((((((w5.setCell ⟨rb, 0, none⟩ (.int .i64 s.sport)).setCell ⟨rb, 1, none⟩ (.int .i64 s.dport)).setCell ⟨rb, 2, none⟩ (.int .u32 s.seq)).setCell ⟨rb, 3, none⟩ (.int .u32 s.ack)).setCell ⟨rb, 4, none⟩ (.int .i64 s.flags)).setCell ⟨rb, 5, none⟩ (.int .i64 s.window)).setCell ⟨rb, 6, none⟩ (.string s.data)) :=
  parse_fin0 s c (set7 hrb _ _ _ _ _ _ _) h8 h9 (below7 hb hB s) hs hc

theorem parse_fin1 {proto : Int} {src dst : Nat} {b : ByteArray} {w w5 : World} {rb : Nat} {a0 a1 a2 a3 a4 a5 a6 : Value} {tm : Array Value} {fr : Nat × Nat} (s : Seg) (c : Int) (o : Obj)
    (hrb : w5.heap[rb]? = some (.cells #[a0, a1, a2, a3, a4, a5, a6] 24 fr)) (h8 : tm.getD 8 undef = .pointer (some ⟨rb, 0, none⟩)) (h9 : tm.getD 9 undef = .int .i64 c)
    (hb : Below w.heap.size w w5) (hB : w.heap.size ≤ rb) (hs : parseSeg proto src dst b = s) (hc : (parseCode proto src dst b : Int) = c) :
    bodyPost Try.prog Try.f14 (ParsePost proto src dst b w) Exit.ret { tmps := tm, defers := [] }
      (World.alloc (((((((w5.setCell ⟨rb, 0, none⟩ (.int .i64 s.sport)).setCell ⟨rb, 1, none⟩ (.int .i64 s.dport)).setCell ⟨rb, 2, none⟩ (.int .u32 s.seq)).setCell ⟨rb, 3, none⟩ (.int .u32 s.ack)).setCell ⟨rb, 4, none⟩ (.int .i64 s.flags)).setCell ⟨rb, 5, none⟩ (.int .i64 s.window)).setCell ⟨rb, 6, none⟩ (.string s.data)) o) :=
  parse_fin0 s c (blk_alloc (set7 hrb _ _ _ _ _ _ _) o) h8 h9 ((below7 hb hB s).alloc (below7 hb hB s).size o) hs hc

set_option maxHeartbeats 4000000 in
set_option maxRecDepth 100000 in
theorem parse_any (proto : Int) (src dst : Nat) (b : ByteArray) (w : World) (hsrc : src < 4294967296) (hdst : dst < 4294967296) (hmax : b.size ≤ maxLen) :
    Calls Try.prog 14 #[.int .i64 proto, .int .u32 src, .int .u32 dst, .string b] w (ParsePost proto src dst b w) := by
  have hps := fun w => pseudo_any src dst proto b.size w hsrc hdst
  have HPS := Lib.hid hps; clear hps
  have hmax' := hmax
  unfold maxLen at hmax'
  go_enter Try.func14, Try.ntmps14
  go_wp2_with (first | (go_at_call 48; (with_reducible refine (read_any _ _).mono ?_); rintro e w1 ⟨rfl, rfl⟩) | (go_at_call 43; (with_reducible refine (HPS.out _).mono ?_); rintro e w2 ⟨rfl, hf2⟩))
  have hz : ((w.alloc (.cells #[.int .i64 0, .int .i64 0, .int .u32 0, .int .u32 0, .int .i64 0, .int .i64 0, .string ⟨#[]⟩] 24)).alloc (.cells #[.bool false, .string b] 168)).heap.size = w.heap.size + 2 := by simp
  rw [hz] at hf2
  have hrd0 : w2.heap[w.heap.size + 1]? = some (.cells #[.bool false, .string b] 168 (0, 0)) := (hf2.block _ (by omega)).trans (by have := blk_new (w.alloc (.cells #[.int .i64 0, .int .i64 0, .int .u32 0, .int .u32 0, .int .i64 0, .int .i64 0, .string ⟨#[]⟩] 24)) (.cells #[.bool false, .string b] 168); simpa using this)
  have hrb0 : w2.heap[w.heap.size]? = some (.cells #[.int .i64 0, .int .i64 0, .int .u32 0, .int .u32 0, .int .i64 0, .int .i64 0, .string ⟨#[]⟩] 24 (0, 0)) := (hf2.block _ (by omega)).trans (blk_alloc (blk_new _ _) _)
  have hb2 : Below w.heap.size w w2 := (((Below.refl _ _).alloc (Nat.le_refl _) _).alloc (by simp) _).trans (hf2.mono (by omega))
  have hz2 := hf2.size
  rw [hz] at hz2
  clear hf2 hz
  have hbw := Lib.hid hb2; clear hb2
  refine (good_s _ [⟨(pseudo src dst proto b.size).toArray⟩, b] 2 2 _ rfl ?hstr (by decide) ?hszs).mono ?_
  case hstr => exact (blk_new _ _).trans (by simp)
  case hszs => intro s hs; simp only [List.mem_cons, List.not_mem_nil, or_false] at hs; rcases hs with rfl | rfl <;> first | exact hmax | (rw [← toList_size]; simp [pseudo, beAll_length, maxLen])
  rintro e w3 ⟨rfl, hf3⟩
  have en : decide (65535 - (putL8 (0, true) (cat [⟨(pseudo src dst proto b.size).toArray⟩, b])).1 = 0) = goodB proto src dst b := by rw [cat_two]; rfl
  rw [en]
  clear en
  have HPC : Hid (parseCode proto src dst b = if proto = 6 then tcpCode b (goodB proto src dst b) else if proto = 17 then udpCode b (goodB proto src dst b) else 1) := rfl
  have HPG : Hid (parseSeg proto src dst b = if parseCode proto src dst b = 0 then (if proto = 6 then tcpSeg b else udpSeg b) else zeroSeg) := rfl
  generalize goodB proto src dst b = g at *
  have hrd3 := hf3.keep (blk_alloc hrd0 _) id
  have hrb3 := hf3.keep (blk_alloc hrb0 _) id
  have hb3 : Below w.heap.size w w3 := (hbw.out.alloc (by omega) _).trans ((Foot.below hf3).mono (by simp; omega))
  have hz3 := hf3.size
  rw [alloc_size] at hz3
  clear hbw hrd0 hrb0 hf3
  have HB3 := Lib.hid hb3; clear hb3
  by_cases p6 : proto = 6
  · have HPC2 := HPC.out
    have HPG2 := HPG.out
    rw [if_pos p6] at HPC2
    rw [if_pos p6] at HPG2
    have hpc := Lib.hid HPC2; have hpg := Lib.hid HPG2
    clear HPC2 HPG2 HPC HPG
    subst p6
    go_wp2_with (fail)
    have hP0 : PAt (w3.alloc (.cells #[.pointer (some ⟨w.heap.size + 1, 0, none⟩), .string b, .bool g, .int .i64 0, .int .i64 0, .int .u32 0, .int .u32 0, .int .i64 0, .int .i64 0, .string ⟨#[]⟩] 113)) w3.heap.size (w.heap.size + 1) b g ⟨0, 0, 0, 0, 0, 0, ⟨#[]⟩⟩ (tl b 0) :=
      ⟨blk_new _ _, by rw [tl_zero]; exact blk_alloc hrd3 _, by omega⟩
    have hrb4 := blk_alloc hrb3 (.cells #[.pointer (some ⟨w.heap.size + 1, 0, none⟩), .string b, .bool g, .int .i64 0, .int .i64 0, .int .u32 0, .int .u32 0, .int .i64 0, .int .i64 0, .string ⟨#[]⟩] 113)
    have hb4 : Below w.heap.size w (w3.alloc (.cells #[.pointer (some ⟨w.heap.size + 1, 0, none⟩), .string b, .bool g, .int .i64 0, .int .i64 0, .int .u32 0, .int .u32 0, .int .i64 0, .int .i64 0, .string ⟨#[]⟩] 113)) := HB3.out.alloc (by omega) _
    refine (parTcp_all _ _ b g _ hP0 hmax).mono ?_
    clear hP0 hrd3 hrb3
    rintro e w5 ⟨rfl, hf5, hpk⟩
    have hrb5 := hf5.keep hrb4 (by omega)
    have hb5 : Below w.heap.size w w5 := ⟨hf5.os.trans hb4.os, hf5.tape.trans hb4.tape, hf5.output.trans hb4.output, Nat.le_trans hb4.size hf5.size, fun i hi => (hf5.block i (Nat.lt_of_lt_of_le hi hb4.size) (by omega)).trans (hb4.block i hi)⟩
    clear hrb4 hb4 hf5 HB3 HPS
    obtain ⟨d0, d1, d2, d3, d4, d5, d6⟩ := cells7 hrb5
    have fr0 := fun i => blk_free hrb5 i
    have r0 := fr0 0; have r1 := fr0 1; have r2 := fr0 2; have r3 := fr0 3; have r4 := fr0 4; have r5 := fr0 5; have r6 := fr0 6
    have HRB := Lib.hid hrb5
    clear fr0 hrb5
    have HB5 := Lib.hid hb5; clear hb5
    have hpc0 : parseCode 6 src dst b = tcpCode b g := hpc.out
    have HPC := Lib.hid hpc0; clear hpc0 hpc
    by_cases h0 : tcpCode b g = 0
    · obtain ⟨r, hP⟩ := hpk h0
      clear hpk
      have k3 := hP.c3; have k4 := hP.c4; have k5 := hP.c5; have k6 := hP.c6; have k7 := hP.c7; have k8 := hP.c8; have k9 := hP.c9
      clear hP
      have hs : parseSeg 6 src dst b = tcpSeg b := by rw [hpg.out, if_pos (by rw [HPC.out]; exact h0)]
      have HS := Lib.hid hs; clear hs hpg
      have H0 := Lib.hid h0
      rw [h0]
      clear h0
      go_wp2
      exact parse_fin (tcpSeg b) 0 HRB.out rfl rfl HB5.out (Nat.le_refl _) HS.out (by rw [HPC.out, H0.out]; rfl)
    · obtain ⟨n1, n2⟩ := codeNe h0
      have hs : parseSeg 6 src dst b = zeroSeg := by rw [hpg.out, if_neg (by rw [HPC.out]; exact h0)]
      have HS := Lib.hid hs; clear hs hpg hpk
      generalize tcpCode b g = c at *
      go_wp2
      exact parse_fin zeroSeg c HRB.out rfl rfl HB5.out (Nat.le_refl _) HS.out (by rw [HPC.out])
  · have HPC2 := HPC.out
    have HPG2 := HPG.out
    rw [if_neg p6] at HPC2
    rw [if_neg p6] at HPG2
    by_cases p17 : proto = 17
    · rw [if_pos p17] at HPC2
      have hpc := Lib.hid HPC2; have hpg := Lib.hid HPG2
      clear HPC2 HPG2 HPC HPG
      subst p17
      clear p6
      go_wp2_with (fail)
      have hP0 : PAt (w3.alloc (.cells #[.pointer (some ⟨w.heap.size + 1, 0, none⟩), .string b, .bool g, .int .i64 0, .int .i64 0, .int .u32 0, .int .u32 0, .int .i64 0, .int .i64 0, .string ⟨#[]⟩] 113)) w3.heap.size (w.heap.size + 1) b g ⟨0, 0, 0, 0, 0, 0, ⟨#[]⟩⟩ (tl b 0) :=
        ⟨blk_new _ _, by rw [tl_zero]; exact blk_alloc hrd3 _, by omega⟩
      have hrb4 := blk_alloc hrb3 (.cells #[.pointer (some ⟨w.heap.size + 1, 0, none⟩), .string b, .bool g, .int .i64 0, .int .i64 0, .int .u32 0, .int .u32 0, .int .i64 0, .int .i64 0, .string ⟨#[]⟩] 113)
      have hb4 : Below w.heap.size w (w3.alloc (.cells #[.pointer (some ⟨w.heap.size + 1, 0, none⟩), .string b, .bool g, .int .i64 0, .int .i64 0, .int .u32 0, .int .u32 0, .int .i64 0, .int .i64 0, .string ⟨#[]⟩] 113)) := HB3.out.alloc (by omega) _
      refine (parUdp_all _ _ b g _ hP0 hmax).mono ?_
      clear hP0 hrd3 hrb3
      rintro e w5 ⟨rfl, hf5, hpk⟩
      have hrb5 := hf5.keep hrb4 (by omega)
      have hb5 : Below w.heap.size w w5 := ⟨hf5.os.trans hb4.os, hf5.tape.trans hb4.tape, hf5.output.trans hb4.output, Nat.le_trans hb4.size hf5.size, fun i hi => (hf5.block i (Nat.lt_of_lt_of_le hi hb4.size) (by omega)).trans (hb4.block i hi)⟩
      clear hrb4 hb4 hf5 HB3 HPS
      obtain ⟨d0, d1, d2, d3, d4, d5, d6⟩ := cells7 hrb5
      have fr0 := fun i => blk_free hrb5 i
      have r0 := fr0 0; have r1 := fr0 1; have r2 := fr0 2; have r3 := fr0 3; have r4 := fr0 4; have r5 := fr0 5; have r6 := fr0 6
      have HRB := Lib.hid hrb5
      clear fr0 hrb5
      have HB5 := Lib.hid hb5; clear hb5
      have hpc0 : parseCode 17 src dst b = udpCode b g := hpc.out
      have HPC := Lib.hid hpc0; clear hpc0 hpc
      by_cases h0 : udpCode b g = 0
      · obtain ⟨r, hP⟩ := hpk h0
        clear hpk
        have k3 := hP.c3; have k4 := hP.c4; have k5 := hP.c5; have k6 := hP.c6; have k7 := hP.c7; have k8 := hP.c8; have k9 := hP.c9
        clear hP
        have hs : parseSeg 17 src dst b = udpSeg b := by rw [hpg.out, if_pos (by rw [HPC.out]; exact h0)]
        have HS := Lib.hid hs; clear hs hpg
        have H0 := Lib.hid h0
        rw [h0]
        clear h0
        go_wp2
        exact parse_fin (udpSeg b) 0 HRB.out rfl rfl HB5.out (Nat.le_refl _) HS.out (by rw [HPC.out, H0.out]; rfl)
      · obtain ⟨n1, n2⟩ := codeNe h0
        have hs : parseSeg 17 src dst b = zeroSeg := by rw [hpg.out, if_neg (by rw [HPC.out]; exact h0)]
        have HS := Lib.hid hs; clear hs hpg hpk
        generalize udpCode b g = c at *
        go_wp2
        exact parse_fin zeroSeg c HRB.out rfl rfl HB5.out (Nat.le_refl _) HS.out (by rw [HPC.out])
    · have p1 : (proto == 6) = false := by simp [p6]
      have p2 : (proto == 17) = false := by simp [p17]
      have HPC2 := HPC.out
      rw [if_neg p6, if_neg p17] at HPC2
      have hs : parseSeg proto src dst b = zeroSeg := by rw [HPG.out, if_neg (by rw [HPC2]; decide)]
      have HS := Lib.hid hs; clear hs HPG HPC
      have HPC := Lib.hid HPC2; clear HPC2
      have hlt3 := blk_lt hrb3
      obtain ⟨d0, d1, d2, d3, d4, d5, d6⟩ := cells7 hrb3
      have fr0 := fun i => blk_free hrb3 i
      have r0 := fr0 0; have r1 := fr0 1; have r2 := fr0 2; have r3 := fr0 3; have r4 := fr0 4; have r5 := fr0 5; have r6 := fr0 6
      have HRB := Lib.hid hrb3
      clear fr0 hrb3 hrd3 HPS
      have P6 := Lib.hid p6; have P17 := Lib.hid p17
      clear p6 p17
      go_wp2
      exact parse_fin1 zeroSeg 1 _ HRB.out rfl rfl HB3.out (Nat.le_refl _) HS.out (by rw [HPC.out]; rfl)

/-- The ports of bytes. -/
def PortsPost (x y : Int) (ok : Bool) (w : World) (e : Ending) (w' : World) : Prop :=
  e = .returned (.tuple #[.int .i64 x, .int .i64 y, .bool ok]) ∧ Below w.heap.size w w'

set_option maxHeartbeats 2000000 in
set_option maxRecDepth 100000 in
theorem ports_yes (proto : Int) (b : ByteArray) (w : World) (h : proto = 6 ∨ proto = 17) (hb : 8 ≤ b.size) (hmax : b.size ≤ maxLen) :
    Calls Try.prog 17 #[.int .i64 proto, .string b] w (PortsPost (rnum (tl b 0) 2 : Nat) (rnum (tl b 2) 2 : Nat) true w) := by
  have hrd : RdAt (w.alloc (.cells #[.bool false, .string b] 168)) w.heap.size false (tl b 0) := by rw [tl_zero]; exact blk_new _ _
  have hl : (8 : Int) ≤ b.size := by omega
  have HR := Lib.hid hrd; clear hrd
  rcases h with rfl | rfl
  all_goals
    go_enter Try.func17, Try.ntmps17
    go_wp2_with (go_at_call 48; (with_reducible refine (read_any _ _).mono ?_); rintro e w1 ⟨rfl, rfl⟩)
    refine (short_at _ b 0 _ HR.out (by omega) hmax).mono ?_
    rintro e w2 ⟨rfl, hr2, hf2⟩
    go_wp2_with (fail)
    refine (short_at _ b 2 _ hr2 (by omega) hmax).mono ?_
    rintro e w3 ⟨rfl, hr3, hf3⟩
    have hbel : Below w.heap.size w w3 := ((Below.refl _ _).alloc (Nat.le_refl _) _).trans (by
      have h := hf2.trans hf3
      exact ⟨h.os, h.tape, h.output, h.size, fun k hk => h.block k (by simp; omega) (by omega)⟩)
    clear hf2 hf3 hr2 hr3
    go_wp2
    go_ret3
    exact ⟨rfl, hbel⟩

set_option maxHeartbeats 2000000 in
set_option maxRecDepth 100000 in
theorem ports_no (proto : Int) (b : ByteArray) (w : World) (h : ¬ ((proto = 6 ∨ proto = 17) ∧ 8 ≤ b.size)) :
    Calls Try.prog 17 #[.int .i64 proto, .string b] w (PortsPost 0 0 false w) := by
  by_cases hb : 8 ≤ b.size
  · have p6 : proto ≠ 6 := fun e => h ⟨.inl e, hb⟩
    have p17 : proto ≠ 17 := fun e => h ⟨.inr e, hb⟩
    have p1 : (proto == 6) = false := by simp [p6]
    have p2 : (proto == 17) = false := by simp [p17]
    have p3 : (proto != 6) = true := by simp [p6]
    have p4 : (proto != 17) = true := by simp [p17]
    clear h p6 p17
    go_enter Try.func17, Try.ntmps17
    go_wp2
    go_ret3
    exact ⟨rfl, Below.refl _ _⟩
  · have hl : ¬ (8 : Int) ≤ b.size := by omega
    have hl2 : decide (b.size < 8) = true := by simp; omega
    by_cases p6 : proto = 6
    · subst p6
      go_enter Try.func17, Try.ntmps17
      go_wp2
      go_ret3
      exact ⟨rfl, Below.refl _ _⟩
    · have p1 : (proto == 6) = false := by simp [p6]
      have p3 : (proto != 6) = true := by simp [p6]
      by_cases p17 : proto = 17
      · subst p17
        go_enter Try.func17, Try.ntmps17
        go_wp2
        go_ret3
        exact ⟨rfl, Below.refl _ _⟩
      · have p2 : (proto == 17) = false := by simp [p17]
        have p4 : (proto != 17) = true := by simp [p17]
        clear h p6 p17
        go_enter Try.func17, Try.ntmps17
        go_wp2
        go_ret3
        exact ⟨rfl, Below.refl _ _⟩

end Go.Proofs.Ytcmgfmpmapnckaa
