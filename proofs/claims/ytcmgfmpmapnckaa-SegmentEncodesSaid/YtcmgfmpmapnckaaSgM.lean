/- The walk of the law SegmentEncodes at right segments, and the whole. Written by wip/genlawE.py. -/
import Derived.Test.YtcmgfmpmapnckaaSgL
namespace Go.Proofs.Ytcmgfmpmapnckaa
open Go.RowKit
set_option linter.unusedVariables false
set_option linter.unusedSimpArgs false

theorem encode_tcp_str (sp dp seq ack fl wi : Nat) (data : ByteArray) (src dst : Nat) (w : World) (h1 : sp ≤ 65535) (h2 : dp ≤ 65535) (h3 : data.size ≤ 65495) (h4 : wi ≤ 65535) (h5 : fl ≤ 63) (h6 : seq < 4294967296) (h7 : ack < 4294967296) (hsrc : src < 4294967296) (hdst : dst < 4294967296) :
    Calls Try.prog 11 #[.int .i64 6, .int .u32 src, .int .u32 dst, .agg #[.int .i64 (sp : Nat), .int .i64 (dp : Nat), .int .u32 (seq : Nat), .int .u32 (ack : Nat), .int .i64 (fl : Nat), .int .i64 (wi : Nat), .string data]] w fun e w' =>
      e = .returned (.tuple #[.string (str (refTcpRes src dst sp dp seq ack fl wi data)), .int .i64 0]) ∧ Below w.heap.size w w' := by
  rw [← tcp_same]
  exact encode_tcp sp dp seq ack fl wi data src dst w h1 h2 h3 h4 h5 h6 h7 hsrc hdst
theorem encode_udp_str (sp dp : Nat) (data : ByteArray) (src dst : Nat) (w : World) (h1 : sp ≤ 65535) (h2 : dp ≤ 65535) (h3 : data.size ≤ 65507) (hsrc : src < 4294967296) (hdst : dst < 4294967296) :
    Calls Try.prog 11 #[.int .i64 17, .int .u32 src, .int .u32 dst, .agg #[.int .i64 (sp : Nat), .int .i64 (dp : Nat), .int .u32 0, .int .u32 0, .int .i64 0, .int .i64 0, .string data]] w fun e w' =>
      e = .returned (.tuple #[.string (str (refUdpRes src dst sp dp data)), .int .i64 0]) ∧ Below w.heap.size w w' := by
  rw [← udp_same]
  exact encode_udp sp dp data src dst w h1 h2 h3 hsrc hdst

theorem refTcp_length (src dst sp dp seq ack fl wi : Nat) (data : ByteArray) : (refTcpRes src dst sp dp seq ack fl wi data).length = 20 + data.size := by
  unfold refTcpRes
  simp only [List.length_append, be_length, toList_size, List.length_cons, List.length_nil]; omega
theorem refUdp_length (src dst sp dp : Nat) (data : ByteArray) : (refUdpRes src dst sp dp data).length = 8 + data.size := by
  unfold refUdpRes
  simp only [List.length_append, be_length, toList_size]

set_option maxHeartbeats 4000000 in
set_option maxRecDepth 100000 in
theorem sencodes_udp (sp dp : Nat) (data : ByteArray) (src dst : Nat) (w : World) (h1 : sp ≤ 65535) (h2 : dp ≤ 65535) (h3 : data.size ≤ 65507) (hsrc : src < 4294967296) (hdst : dst < 4294967296) (hz : data.size ≤ 2000) :
    Calls Try.prog 3 #[.int .i64 17, .int .u32 src, .int .u32 dst, .agg #[.int .i64 (sp : Nat), .int .i64 (dp : Nat), .int .u32 0, .int .u32 0, .int .i64 0, .int .i64 0, .string data]] w (TruePost w) := by
  have hright : segRight 17 ⟨(sp : Nat), (dp : Nat), 0, 0, 0, 0, data⟩ := ⟨⟨by simp, by simp only; omega⟩, ⟨by simp, by simp only; omega⟩, .inr ⟨rfl, rfl, rfl, rfl, rfl, h3⟩⟩
  have e1 := fun w => encode_udp_str sp dp data src dst w h1 h2 h3 hsrc hdst
  have e2 := fun w => refRight_yes 17 _ w hright
  have e3 := fun w => right_yes 17 _ w hright
  have e4 := fun w => refEnc_udp sp dp data src dst w h1 h2 h3 hsrc hdst
  have e5 := fun w => parse_any 17 src dst (str (refUdpRes src dst sp dp data)) w hsrc hdst (by rw [str_size, refUdp_length]; unfold maxLen; omega)
  obtain ⟨q1, q2⟩ := udp_reads src dst sp dp data h1 h2 h3
  unfold ParsePost at e5
  rw [q1, q2] at e5
  clear q1 q2 hright
  unfold Seg.cells at e2 e3 e5
  simp only at e2 e3 e5
  generalize str (refUdpRes src dst sp dp data) = b at *
  have E1 := Lib.hid e1; clear e1
  have E2 := Lib.hid e2; clear e2
  have E3 := Lib.hid e3; clear e3
  have E4 := Lib.hid e4; clear e4
  have E5 := Lib.hid e5; clear e5
  have hb0 := blk_new w (.cells #[.int .i64 (sp : Nat), .int .i64 (dp : Nat), .int .u32 0, .int .u32 0, .int .i64 0, .int .i64 0, .string data] 24)
  have hl0 : Below w.heap.size w (w.alloc (.cells #[.int .i64 (sp : Nat), .int .i64 (dp : Nat), .int .u32 0, .int .u32 0, .int .i64 0, .int .i64 0, .string data] 24)) := (Below.refl _ _).alloc (Nat.le_refl _) _
  have HB0 := Lib.hid hb0; clear hb0
  have HL0 := Lib.hid hl0; clear hl0
  have hz1 : (data.size : Int) ≤ 2000 := by omega
  have hz3 : (data.size : Int) ≤ 66000 := by omega
  have HZ := Lib.hid hz; clear hz
  have HH3 := Lib.hid h3; clear h3
  go_enter Try.func3, Try.ntmps3
  go_wp2_with (fail)
  refine (E1.out _).mono ?_
  rintro e w1 ⟨rfl, hf1⟩
  have hb1 := (hf1.block _ (blk_lt HB0.out)).trans HB0.out
  have hl1 := Lib.hid (HL0.out.trans (hf1.mono HL0.out.size))
  obtain ⟨d0, d1, d2, d3, d4, d5, d6⟩ := cells7 hb1
  have HB1 := Lib.hid hb1; clear hb1
  have HL1 := hl1; clear hl1 hf1
  clear HB0 HL0
  go_wp2_with (fail)
  clear d0 d1 d2 d3 d4 d5 d6
  refine (E2.out _).mono ?_
  rintro e w2 ⟨rfl, hf2⟩
  have hb2 := hf2.keep HB1.out id
  have hl2 := Lib.hid (HL1.out.trans ((Foot.below hf2).mono HL1.out.size))
  obtain ⟨d0, d1, d2, d3, d4, d5, d6⟩ := cells7 hb2
  have HB2 := Lib.hid hb2; clear hb2
  have HL2 := hl2; clear hl2 hf2
  clear HB1 HL1
  go_wp2_with (fail)
  clear d0 d1 d2 d3 d4 d5 d6
  refine (E5.out _).mono ?_
  rintro e w3 ⟨rfl, hf3⟩
  have hb3 := (hf3.block _ (blk_lt HB2.out)).trans HB2.out
  have hl3 := Lib.hid (HL2.out.trans (hf3.mono HL2.out.size))
  obtain ⟨d0, d1, d2, d3, d4, d5, d6⟩ := cells7 hb3
  have HB3 := Lib.hid hb3; clear hb3
  have HL3 := hl3; clear hl3 hf3
  clear HB2 HL2
  have hlt3 := blk_lt HB3.out
  go_wp2_with (fail)
  have hbA := blk_alloc HB3.out (.cells #[.int .i64 (sp : Nat), .int .i64 (dp : Nat), .int .u32 0, .int .u32 0, .int .i64 0, .int .i64 0, .string data] 24)
  have hbN := blk_new w3 (.cells #[.int .i64 (sp : Nat), .int .i64 (dp : Nat), .int .u32 0, .int .u32 0, .int .i64 0, .int .i64 0, .string data] 24)
  have hlA : Below w.heap.size w (w3.alloc (.cells #[.int .i64 (sp : Nat), .int .i64 (dp : Nat), .int .u32 0, .int .u32 0, .int .i64 0, .int .i64 0, .string data] 24)) := HL3.out.alloc HL3.out.size _
  have hneA : w.heap.size ≠ w3.heap.size := by omega
  have hszA := blk_lt hbN
  generalize w3.alloc (.cells #[.int .i64 (sp : Nat), .int .i64 (dp : Nat), .int .u32 0, .int .u32 0, .int .i64 0, .int .i64 0, .string data] 24) = w4 at *
  generalize w3.heap.size = nb at *
  clear HB3 HL3 hlt3 d0 d1 d2 d3 d4 d5 d6
  refine (E4.out _).mono ?_
  rintro e w5 ⟨rfl, hf5⟩
  have hb5 := (hf5.block _ (blk_lt hbA)).trans hbA
  have hn5 := (hf5.block _ (blk_lt hbN)).trans hbN
  have hl5 := hlA.trans (hf5.mono hlA.size)
  clear hbA hbN hlA hf5 hszA
  obtain ⟨d0, d1, d2, d3, d4, d5, d6⟩ := cells7 hb5
  have HB5 := Lib.hid hb5; clear hb5
  have HN5 := Lib.hid hn5; clear hn5
  have HL5 := Lib.hid hl5; clear hl5
  go_wp2_with (fail)
  clear d0 d1 d2 d3 d4 d5 d6
  refine (E3.out _).mono ?_
  rintro e w6 ⟨rfl, hf6⟩
  have hb6 := hf6.keep HB5.out id
  have hn6 := hf6.keep HN5.out id
  have hl6 := HL5.out.trans ((Foot.below hf6).mono HL5.out.size)
  clear HB5 HN5 HL5 hf6
  obtain ⟨d0, d1, d2, d3, d4, d5, d6⟩ := cells7 hb6
  obtain ⟨g0, g1, g2, g3, g4, g5, g6⟩ := cells7 hn6
  have HL6 := Lib.hid hl6; clear hl6 hb6 hn6 hneA
  go_wp2_with (fail)
  clear d0 d1 d2 d3 d4 d5 d6 g0 g1 g2 g3 g4 g5 g6
  refine (awake6 _).mono ?_
  rintro e w7 ⟨rfl, hf7⟩
  have hl7 := HL6.out.trans (hf7.mono HL6.out.size)
  clear hf7
  go_wp2
  go_ret
  exact ⟨rfl, hl7⟩

set_option maxHeartbeats 4000000 in
set_option maxRecDepth 100000 in
theorem sencodes_udp_big (sp dp : Nat) (data : ByteArray) (src dst : Nat) (w : World) (h1 : sp ≤ 65535) (h2 : dp ≤ 65535) (h3 : data.size ≤ 65507) (hsrc : src < 4294967296) (hdst : dst < 4294967296) (hz : 65000 ≤ data.size) :
    Calls Try.prog 3 #[.int .i64 17, .int .u32 src, .int .u32 dst, .agg #[.int .i64 (sp : Nat), .int .i64 (dp : Nat), .int .u32 0, .int .u32 0, .int .i64 0, .int .i64 0, .string data]] w (TruePost w) := by
  have hright : segRight 17 ⟨(sp : Nat), (dp : Nat), 0, 0, 0, 0, data⟩ := ⟨⟨by simp, by simp only; omega⟩, ⟨by simp, by simp only; omega⟩, .inr ⟨rfl, rfl, rfl, rfl, rfl, h3⟩⟩
  have e1 := fun w => encode_udp_str sp dp data src dst w h1 h2 h3 hsrc hdst
  have e2 := fun w => refRight_yes 17 _ w hright
  have e3 := fun w => right_yes 17 _ w hright
  have e4 := fun w => refEnc_udp sp dp data src dst w h1 h2 h3 hsrc hdst
  have e5 := fun w => parse_any 17 src dst (str (refUdpRes src dst sp dp data)) w hsrc hdst (by rw [str_size, refUdp_length]; unfold maxLen; omega)
  obtain ⟨q1, q2⟩ := udp_reads src dst sp dp data h1 h2 h3
  unfold ParsePost at e5
  rw [q1, q2] at e5
  clear q1 q2 hright
  unfold Seg.cells at e2 e3 e5
  simp only at e2 e3 e5
  generalize str (refUdpRes src dst sp dp data) = b at *
  have E1 := Lib.hid e1; clear e1
  have E2 := Lib.hid e2; clear e2
  have E3 := Lib.hid e3; clear e3
  have E4 := Lib.hid e4; clear e4
  have E5 := Lib.hid e5; clear e5
  have hb0 := blk_new w (.cells #[.int .i64 (sp : Nat), .int .i64 (dp : Nat), .int .u32 0, .int .u32 0, .int .i64 0, .int .i64 0, .string data] 24)
  have hl0 : Below w.heap.size w (w.alloc (.cells #[.int .i64 (sp : Nat), .int .i64 (dp : Nat), .int .u32 0, .int .u32 0, .int .i64 0, .int .i64 0, .string data] 24)) := (Below.refl _ _).alloc (Nat.le_refl _) _
  have HB0 := Lib.hid hb0; clear hb0
  have HL0 := Lib.hid hl0; clear hl0
  have hz1 : (2000 : Int) < data.size := by omega
  have hz2 : (65000 : Int) ≤ data.size := by omega
  have hz3 : (data.size : Int) ≤ 66000 := by omega
  have HZ := Lib.hid hz; clear hz
  have HH3 := Lib.hid h3; clear h3
  go_enter Try.func3, Try.ntmps3
  go_wp2_with (fail)
  refine (E1.out _).mono ?_
  rintro e w1 ⟨rfl, hf1⟩
  have hb1 := (hf1.block _ (blk_lt HB0.out)).trans HB0.out
  have hl1 := Lib.hid (HL0.out.trans (hf1.mono HL0.out.size))
  obtain ⟨d0, d1, d2, d3, d4, d5, d6⟩ := cells7 hb1
  have HB1 := Lib.hid hb1; clear hb1
  have HL1 := hl1; clear hl1 hf1
  clear HB0 HL0
  go_wp2_with (fail)
  clear d0 d1 d2 d3 d4 d5 d6
  refine (E2.out _).mono ?_
  rintro e w2 ⟨rfl, hf2⟩
  have hb2 := hf2.keep HB1.out id
  have hl2 := Lib.hid (HL1.out.trans ((Foot.below hf2).mono HL1.out.size))
  obtain ⟨d0, d1, d2, d3, d4, d5, d6⟩ := cells7 hb2
  have HB2 := Lib.hid hb2; clear hb2
  have HL2 := hl2; clear hl2 hf2
  clear HB1 HL1
  go_wp2_with (fail)
  clear d0 d1 d2 d3 d4 d5 d6
  refine (E5.out _).mono ?_
  rintro e w3 ⟨rfl, hf3⟩
  have hb3 := (hf3.block _ (blk_lt HB2.out)).trans HB2.out
  have hl3 := Lib.hid (HL2.out.trans (hf3.mono HL2.out.size))
  obtain ⟨d0, d1, d2, d3, d4, d5, d6⟩ := cells7 hb3
  have HB3 := Lib.hid hb3; clear hb3
  have HL3 := hl3; clear hl3 hf3
  clear HB2 HL2
  have hlt3 := blk_lt HB3.out
  go_wp2_with (fail)
  have hbA := blk_alloc HB3.out (.cells #[.int .i64 (sp : Nat), .int .i64 (dp : Nat), .int .u32 0, .int .u32 0, .int .i64 0, .int .i64 0, .string data] 24)
  have hbN := blk_new w3 (.cells #[.int .i64 (sp : Nat), .int .i64 (dp : Nat), .int .u32 0, .int .u32 0, .int .i64 0, .int .i64 0, .string data] 24)
  have hlA : Below w.heap.size w (w3.alloc (.cells #[.int .i64 (sp : Nat), .int .i64 (dp : Nat), .int .u32 0, .int .u32 0, .int .i64 0, .int .i64 0, .string data] 24)) := HL3.out.alloc HL3.out.size _
  have hneA : w.heap.size ≠ w3.heap.size := by omega
  have hszA := blk_lt hbN
  generalize w3.alloc (.cells #[.int .i64 (sp : Nat), .int .i64 (dp : Nat), .int .u32 0, .int .u32 0, .int .i64 0, .int .i64 0, .string data] 24) = w4 at *
  generalize w3.heap.size = nb at *
  clear HB3 HL3 hlt3 d0 d1 d2 d3 d4 d5 d6
  refine (E4.out _).mono ?_
  rintro e w5 ⟨rfl, hf5⟩
  have hb5 := (hf5.block _ (blk_lt hbA)).trans hbA
  have hn5 := (hf5.block _ (blk_lt hbN)).trans hbN
  have hl5 := hlA.trans (hf5.mono hlA.size)
  clear hbA hbN hlA hf5 hszA
  obtain ⟨d0, d1, d2, d3, d4, d5, d6⟩ := cells7 hb5
  have HB5 := Lib.hid hb5; clear hb5
  have HN5 := Lib.hid hn5; clear hn5
  have HL5 := Lib.hid hl5; clear hl5
  go_wp2_with (fail)
  clear d0 d1 d2 d3 d4 d5 d6
  refine (E3.out _).mono ?_
  rintro e w6 ⟨rfl, hf6⟩
  have hb6 := hf6.keep HB5.out id
  have hn6 := hf6.keep HN5.out id
  have hl6 := HL5.out.trans ((Foot.below hf6).mono HL5.out.size)
  clear HB5 HN5 HL5 hf6
  obtain ⟨d0, d1, d2, d3, d4, d5, d6⟩ := cells7 hb6
  obtain ⟨g0, g1, g2, g3, g4, g5, g6⟩ := cells7 hn6
  have HL6 := Lib.hid hl6; clear hl6 hb6 hn6 hneA
  go_wp2_with (fail)
  clear d0 d1 d2 d3 d4 d5 d6 g0 g1 g2 g3 g4 g5 g6
  refine (awake6 _).mono ?_
  rintro e w7 ⟨rfl, hf7⟩
  have hl7 := HL6.out.trans (hf7.mono HL6.out.size)
  clear hf7
  go_wp2
  go_ret
  exact ⟨rfl, hl7⟩

set_option maxHeartbeats 4000000 in
set_option maxRecDepth 100000 in
theorem sencodes_tcp (sp dp seq ack fl wi : Nat) (data : ByteArray) (src dst : Nat) (w : World) (h1 : sp ≤ 65535) (h2 : dp ≤ 65535) (h3 : data.size ≤ 65495) (h4 : wi ≤ 65535) (h5 : fl ≤ 63) (h6 : seq < 4294967296) (h7 : ack < 4294967296) (hsrc : src < 4294967296) (hdst : dst < 4294967296) (hz : data.size ≤ 2000) :
    Calls Try.prog 3 #[.int .i64 6, .int .u32 src, .int .u32 dst, .agg #[.int .i64 (sp : Nat), .int .i64 (dp : Nat), .int .u32 (seq : Nat), .int .u32 (ack : Nat), .int .i64 (fl : Nat), .int .i64 (wi : Nat), .string data]] w (TruePost w) := by
  have hright : segRight 6 ⟨(sp : Nat), (dp : Nat), (seq : Nat), (ack : Nat), (fl : Nat), (wi : Nat), data⟩ := ⟨⟨by simp, by simp only; omega⟩, ⟨by simp, by simp only; omega⟩, .inl ⟨rfl, ⟨by simp, by simp only; omega⟩, ⟨by simp, by simp only; omega⟩, h3⟩⟩
  have e1 := fun w => encode_tcp_str sp dp seq ack fl wi data src dst w h1 h2 h3 h4 h5 h6 h7 hsrc hdst
  have e2 := fun w => refRight_yes 6 _ w hright
  have e3 := fun w => right_yes 6 _ w hright
  have e4 := fun w => refEnc_tcp sp dp seq ack fl wi data src dst w h1 h2 h3 h4 h5 h6 h7 hsrc hdst
  have e5 := fun w => parse_any 6 src dst (str (refTcpRes src dst sp dp seq ack fl wi data)) w hsrc hdst (by rw [str_size, refTcp_length]; unfold maxLen; omega)
  obtain ⟨q1, q2⟩ := tcp_reads src dst sp dp data seq ack fl wi h1 h2 h4 h5 h6 h7
  unfold ParsePost at e5
  rw [q1, q2] at e5
  clear q1 q2 hright
  unfold Seg.cells at e2 e3 e5
  simp only at e2 e3 e5
  generalize str (refTcpRes src dst sp dp seq ack fl wi data) = b at *
  have E1 := Lib.hid e1; clear e1
  have E2 := Lib.hid e2; clear e2
  have E3 := Lib.hid e3; clear e3
  have E4 := Lib.hid e4; clear e4
  have E5 := Lib.hid e5; clear e5
  have hb0 := blk_new w (.cells #[.int .i64 (sp : Nat), .int .i64 (dp : Nat), .int .u32 (seq : Nat), .int .u32 (ack : Nat), .int .i64 (fl : Nat), .int .i64 (wi : Nat), .string data] 24)
  have hl0 : Below w.heap.size w (w.alloc (.cells #[.int .i64 (sp : Nat), .int .i64 (dp : Nat), .int .u32 (seq : Nat), .int .u32 (ack : Nat), .int .i64 (fl : Nat), .int .i64 (wi : Nat), .string data] 24)) := (Below.refl _ _).alloc (Nat.le_refl _) _
  have HB0 := Lib.hid hb0; clear hb0
  have HL0 := Lib.hid hl0; clear hl0
  have hz1 : (data.size : Int) ≤ 2000 := by omega
  have hz3 : (data.size : Int) ≤ 66000 := by omega
  have HZ := Lib.hid hz; clear hz
  have HH3 := Lib.hid h3; clear h3
  go_enter Try.func3, Try.ntmps3
  go_wp2_with (fail)
  refine (E1.out _).mono ?_
  rintro e w1 ⟨rfl, hf1⟩
  have hb1 := (hf1.block _ (blk_lt HB0.out)).trans HB0.out
  have hl1 := Lib.hid (HL0.out.trans (hf1.mono HL0.out.size))
  obtain ⟨d0, d1, d2, d3, d4, d5, d6⟩ := cells7 hb1
  have HB1 := Lib.hid hb1; clear hb1
  have HL1 := hl1; clear hl1 hf1
  clear HB0 HL0
  go_wp2_with (fail)
  clear d0 d1 d2 d3 d4 d5 d6
  refine (E2.out _).mono ?_
  rintro e w2 ⟨rfl, hf2⟩
  have hb2 := hf2.keep HB1.out id
  have hl2 := Lib.hid (HL1.out.trans ((Foot.below hf2).mono HL1.out.size))
  obtain ⟨d0, d1, d2, d3, d4, d5, d6⟩ := cells7 hb2
  have HB2 := Lib.hid hb2; clear hb2
  have HL2 := hl2; clear hl2 hf2
  clear HB1 HL1
  go_wp2_with (fail)
  clear d0 d1 d2 d3 d4 d5 d6
  refine (E5.out _).mono ?_
  rintro e w3 ⟨rfl, hf3⟩
  have hb3 := (hf3.block _ (blk_lt HB2.out)).trans HB2.out
  have hl3 := Lib.hid (HL2.out.trans (hf3.mono HL2.out.size))
  obtain ⟨d0, d1, d2, d3, d4, d5, d6⟩ := cells7 hb3
  have HB3 := Lib.hid hb3; clear hb3
  have HL3 := hl3; clear hl3 hf3
  clear HB2 HL2
  have hlt3 := blk_lt HB3.out
  go_wp2_with (fail)
  have hbA := blk_alloc HB3.out (.cells #[.int .i64 (sp : Nat), .int .i64 (dp : Nat), .int .u32 (seq : Nat), .int .u32 (ack : Nat), .int .i64 (fl : Nat), .int .i64 (wi : Nat), .string data] 24)
  have hbN := blk_new w3 (.cells #[.int .i64 (sp : Nat), .int .i64 (dp : Nat), .int .u32 (seq : Nat), .int .u32 (ack : Nat), .int .i64 (fl : Nat), .int .i64 (wi : Nat), .string data] 24)
  have hlA : Below w.heap.size w (w3.alloc (.cells #[.int .i64 (sp : Nat), .int .i64 (dp : Nat), .int .u32 (seq : Nat), .int .u32 (ack : Nat), .int .i64 (fl : Nat), .int .i64 (wi : Nat), .string data] 24)) := HL3.out.alloc HL3.out.size _
  have hneA : w.heap.size ≠ w3.heap.size := by omega
  have hszA := blk_lt hbN
  generalize w3.alloc (.cells #[.int .i64 (sp : Nat), .int .i64 (dp : Nat), .int .u32 (seq : Nat), .int .u32 (ack : Nat), .int .i64 (fl : Nat), .int .i64 (wi : Nat), .string data] 24) = w4 at *
  generalize w3.heap.size = nb at *
  clear HB3 HL3 hlt3 d0 d1 d2 d3 d4 d5 d6
  refine (E4.out _).mono ?_
  rintro e w5 ⟨rfl, hf5⟩
  have hb5 := (hf5.block _ (blk_lt hbA)).trans hbA
  have hn5 := (hf5.block _ (blk_lt hbN)).trans hbN
  have hl5 := hlA.trans (hf5.mono hlA.size)
  clear hbA hbN hlA hf5 hszA
  obtain ⟨d0, d1, d2, d3, d4, d5, d6⟩ := cells7 hb5
  have HB5 := Lib.hid hb5; clear hb5
  have HN5 := Lib.hid hn5; clear hn5
  have HL5 := Lib.hid hl5; clear hl5
  go_wp2_with (fail)
  clear d0 d1 d2 d3 d4 d5 d6
  refine (E3.out _).mono ?_
  rintro e w6 ⟨rfl, hf6⟩
  have hb6 := hf6.keep HB5.out id
  have hn6 := hf6.keep HN5.out id
  have hl6 := HL5.out.trans ((Foot.below hf6).mono HL5.out.size)
  clear HB5 HN5 HL5 hf6
  obtain ⟨d0, d1, d2, d3, d4, d5, d6⟩ := cells7 hb6
  obtain ⟨g0, g1, g2, g3, g4, g5, g6⟩ := cells7 hn6
  have HL6 := Lib.hid hl6; clear hl6 hb6 hn6 hneA
  go_wp2_with (fail)
  clear d0 d1 d2 d3 d4 d5 d6 g0 g1 g2 g3 g4 g5 g6
  refine (awake6 _).mono ?_
  rintro e w7 ⟨rfl, hf7⟩
  have hl7 := HL6.out.trans (hf7.mono HL6.out.size)
  clear hf7
  go_wp2
  go_ret
  exact ⟨rfl, hl7⟩

set_option maxHeartbeats 4000000 in
set_option maxRecDepth 100000 in
theorem sencodes_tcp_big (sp dp seq ack fl wi : Nat) (data : ByteArray) (src dst : Nat) (w : World) (h1 : sp ≤ 65535) (h2 : dp ≤ 65535) (h3 : data.size ≤ 65495) (h4 : wi ≤ 65535) (h5 : fl ≤ 63) (h6 : seq < 4294967296) (h7 : ack < 4294967296) (hsrc : src < 4294967296) (hdst : dst < 4294967296) (hz : 65000 ≤ data.size) :
    Calls Try.prog 3 #[.int .i64 6, .int .u32 src, .int .u32 dst, .agg #[.int .i64 (sp : Nat), .int .i64 (dp : Nat), .int .u32 (seq : Nat), .int .u32 (ack : Nat), .int .i64 (fl : Nat), .int .i64 (wi : Nat), .string data]] w (TruePost w) := by
  have hright : segRight 6 ⟨(sp : Nat), (dp : Nat), (seq : Nat), (ack : Nat), (fl : Nat), (wi : Nat), data⟩ := ⟨⟨by simp, by simp only; omega⟩, ⟨by simp, by simp only; omega⟩, .inl ⟨rfl, ⟨by simp, by simp only; omega⟩, ⟨by simp, by simp only; omega⟩, h3⟩⟩
  have e1 := fun w => encode_tcp_str sp dp seq ack fl wi data src dst w h1 h2 h3 h4 h5 h6 h7 hsrc hdst
  have e2 := fun w => refRight_yes 6 _ w hright
  have e3 := fun w => right_yes 6 _ w hright
  have e4 := fun w => refEnc_tcp sp dp seq ack fl wi data src dst w h1 h2 h3 h4 h5 h6 h7 hsrc hdst
  have e5 := fun w => parse_any 6 src dst (str (refTcpRes src dst sp dp seq ack fl wi data)) w hsrc hdst (by rw [str_size, refTcp_length]; unfold maxLen; omega)
  obtain ⟨q1, q2⟩ := tcp_reads src dst sp dp data seq ack fl wi h1 h2 h4 h5 h6 h7
  unfold ParsePost at e5
  rw [q1, q2] at e5
  clear q1 q2 hright
  unfold Seg.cells at e2 e3 e5
  simp only at e2 e3 e5
  generalize str (refTcpRes src dst sp dp seq ack fl wi data) = b at *
  have E1 := Lib.hid e1; clear e1
  have E2 := Lib.hid e2; clear e2
  have E3 := Lib.hid e3; clear e3
  have E4 := Lib.hid e4; clear e4
  have E5 := Lib.hid e5; clear e5
  have hb0 := blk_new w (.cells #[.int .i64 (sp : Nat), .int .i64 (dp : Nat), .int .u32 (seq : Nat), .int .u32 (ack : Nat), .int .i64 (fl : Nat), .int .i64 (wi : Nat), .string data] 24)
  have hl0 : Below w.heap.size w (w.alloc (.cells #[.int .i64 (sp : Nat), .int .i64 (dp : Nat), .int .u32 (seq : Nat), .int .u32 (ack : Nat), .int .i64 (fl : Nat), .int .i64 (wi : Nat), .string data] 24)) := (Below.refl _ _).alloc (Nat.le_refl _) _
  have HB0 := Lib.hid hb0; clear hb0
  have HL0 := Lib.hid hl0; clear hl0
  have hz1 : (2000 : Int) < data.size := by omega
  have hz2 : (65000 : Int) ≤ data.size := by omega
  have hz3 : (data.size : Int) ≤ 66000 := by omega
  have HZ := Lib.hid hz; clear hz
  have HH3 := Lib.hid h3; clear h3
  go_enter Try.func3, Try.ntmps3
  go_wp2_with (fail)
  refine (E1.out _).mono ?_
  rintro e w1 ⟨rfl, hf1⟩
  have hb1 := (hf1.block _ (blk_lt HB0.out)).trans HB0.out
  have hl1 := Lib.hid (HL0.out.trans (hf1.mono HL0.out.size))
  obtain ⟨d0, d1, d2, d3, d4, d5, d6⟩ := cells7 hb1
  have HB1 := Lib.hid hb1; clear hb1
  have HL1 := hl1; clear hl1 hf1
  clear HB0 HL0
  go_wp2_with (fail)
  clear d0 d1 d2 d3 d4 d5 d6
  refine (E2.out _).mono ?_
  rintro e w2 ⟨rfl, hf2⟩
  have hb2 := hf2.keep HB1.out id
  have hl2 := Lib.hid (HL1.out.trans ((Foot.below hf2).mono HL1.out.size))
  obtain ⟨d0, d1, d2, d3, d4, d5, d6⟩ := cells7 hb2
  have HB2 := Lib.hid hb2; clear hb2
  have HL2 := hl2; clear hl2 hf2
  clear HB1 HL1
  go_wp2_with (fail)
  clear d0 d1 d2 d3 d4 d5 d6
  refine (E5.out _).mono ?_
  rintro e w3 ⟨rfl, hf3⟩
  have hb3 := (hf3.block _ (blk_lt HB2.out)).trans HB2.out
  have hl3 := Lib.hid (HL2.out.trans (hf3.mono HL2.out.size))
  obtain ⟨d0, d1, d2, d3, d4, d5, d6⟩ := cells7 hb3
  have HB3 := Lib.hid hb3; clear hb3
  have HL3 := hl3; clear hl3 hf3
  clear HB2 HL2
  have hlt3 := blk_lt HB3.out
  go_wp2_with (fail)
  have hbA := blk_alloc HB3.out (.cells #[.int .i64 (sp : Nat), .int .i64 (dp : Nat), .int .u32 (seq : Nat), .int .u32 (ack : Nat), .int .i64 (fl : Nat), .int .i64 (wi : Nat), .string data] 24)
  have hbN := blk_new w3 (.cells #[.int .i64 (sp : Nat), .int .i64 (dp : Nat), .int .u32 (seq : Nat), .int .u32 (ack : Nat), .int .i64 (fl : Nat), .int .i64 (wi : Nat), .string data] 24)
  have hlA : Below w.heap.size w (w3.alloc (.cells #[.int .i64 (sp : Nat), .int .i64 (dp : Nat), .int .u32 (seq : Nat), .int .u32 (ack : Nat), .int .i64 (fl : Nat), .int .i64 (wi : Nat), .string data] 24)) := HL3.out.alloc HL3.out.size _
  have hneA : w.heap.size ≠ w3.heap.size := by omega
  have hszA := blk_lt hbN
  generalize w3.alloc (.cells #[.int .i64 (sp : Nat), .int .i64 (dp : Nat), .int .u32 (seq : Nat), .int .u32 (ack : Nat), .int .i64 (fl : Nat), .int .i64 (wi : Nat), .string data] 24) = w4 at *
  generalize w3.heap.size = nb at *
  clear HB3 HL3 hlt3 d0 d1 d2 d3 d4 d5 d6
  refine (E4.out _).mono ?_
  rintro e w5 ⟨rfl, hf5⟩
  have hb5 := (hf5.block _ (blk_lt hbA)).trans hbA
  have hn5 := (hf5.block _ (blk_lt hbN)).trans hbN
  have hl5 := hlA.trans (hf5.mono hlA.size)
  clear hbA hbN hlA hf5 hszA
  obtain ⟨d0, d1, d2, d3, d4, d5, d6⟩ := cells7 hb5
  have HB5 := Lib.hid hb5; clear hb5
  have HN5 := Lib.hid hn5; clear hn5
  have HL5 := Lib.hid hl5; clear hl5
  go_wp2_with (fail)
  clear d0 d1 d2 d3 d4 d5 d6
  refine (E3.out _).mono ?_
  rintro e w6 ⟨rfl, hf6⟩
  have hb6 := hf6.keep HB5.out id
  have hn6 := hf6.keep HN5.out id
  have hl6 := HL5.out.trans ((Foot.below hf6).mono HL5.out.size)
  clear HB5 HN5 HL5 hf6
  obtain ⟨d0, d1, d2, d3, d4, d5, d6⟩ := cells7 hb6
  obtain ⟨g0, g1, g2, g3, g4, g5, g6⟩ := cells7 hn6
  have HL6 := Lib.hid hl6; clear hl6 hb6 hn6 hneA
  go_wp2_with (fail)
  clear d0 d1 d2 d3 d4 d5 d6 g0 g1 g2 g3 g4 g5 g6
  refine (awake6 _).mono ?_
  rintro e w7 ⟨rfl, hf7⟩
  have hl7 := HL6.out.trans (hf7.mono HL6.out.size)
  clear hf7
  go_wp2
  go_ret
  exact ⟨rfl, hl7⟩

theorem sencodes_any (proto : Int) (src dst : Nat) (s : Seg) (w : World) (hsrc : src < 4294967296) (hdst : dst < 4294967296) (hq : 0 ≤ s.seq) (hq2 : s.seq < 4294967296) (ha : 0 ≤ s.ack) (ha2 : s.ack < 4294967296) :
    Calls Try.prog 3 #[.int .i64 proto, .int .u32 src, .int .u32 dst, .agg s.cells] w (TruePost w) := by
  by_cases hskip : 2000 < s.data.size ∧ s.data.size < 65000 ∨ 66000 < s.data.size
  · exact sencodes_skip proto src dst s w hskip
  · by_cases hr : segRight proto s
    · obtain ⟨sport, dport, seq, ack, flags, window, data⟩ := s
      obtain ⟨⟨a1, a2⟩, ⟨b1, b2⟩, hp⟩ := hr
      simp only at *
      obtain ⟨sp, rfl⟩ := Int.eq_ofNat_of_zero_le a1
      obtain ⟨dp, rfl⟩ := Int.eq_ofNat_of_zero_le b1
      obtain ⟨sq, rfl⟩ := Int.eq_ofNat_of_zero_le hq
      obtain ⟨ak, rfl⟩ := Int.eq_ofNat_of_zero_le ha
      rcases hp with ⟨rfl, ⟨c1, c2⟩, ⟨e1, e2⟩, hd⟩ | ⟨rfl, z1, z2, z3, z4, hd⟩
      · obtain ⟨fl, rfl⟩ := Int.eq_ofNat_of_zero_le c1
        obtain ⟨wi, rfl⟩ := Int.eq_ofNat_of_zero_le e1
        by_cases hz : data.size ≤ 2000
        · exact sencodes_tcp sp dp sq ak fl wi data src dst w (by omega) (by omega) hd (by omega) (by omega) (by omega) (by omega) hsrc hdst hz
        · exact sencodes_tcp_big sp dp sq ak fl wi data src dst w (by omega) (by omega) hd (by omega) (by omega) (by omega) (by omega) hsrc hdst (by omega)
      · have q1 : sq = 0 := by omega
        have q2 : ak = 0 := by omega
        subst q1 q2 z3 z4
        by_cases hz : data.size ≤ 2000
        · exact sencodes_udp sp dp data src dst w (by omega) (by omega) hd hsrc hdst hz
        · exact sencodes_udp_big sp dp data src dst w (by omega) (by omega) hd hsrc hdst (by omega)
    · exact sencodes_no proto src dst s w hskip hr

end Go.Proofs.Ytcmgfmpmapnckaa
