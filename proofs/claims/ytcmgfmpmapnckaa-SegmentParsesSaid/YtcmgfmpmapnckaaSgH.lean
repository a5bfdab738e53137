/- The walk of the reference's Encode for segments. Written by wip/regref.py. -/
import Derived.Test.YtcmgfmpmapnckaaSgG
namespace Go.Proofs.Ytcmgfmpmapnckaa
open Go.RowKit
set_option linter.unusedVariables false
set_option linter.unusedSimpArgs false

/-- Bytes as a string. -/
def str (l : List UInt8) : ByteArray := ⟨l.toArray⟩
theorem str_append (a b : List UInt8) : str a ++ str b = str (a ++ b) := by
  apply ByteArray.ext
  simp [str]
theorem str_toList (l : List UInt8) : (str l).data.toList = l := by simp [str]
theorem str_data (s : ByteArray) : str s.data.toList = s := by
  apply ByteArray.ext; simp [str]
theorem str_add (a : List UInt8) (s : ByteArray) : str a ++ s = str (a ++ s.data.toList) := by
  rw [← str_append, str_data]
theorem lit2 : (⟨#[0, 0]⟩ : ByteArray) = str [0, 0] := rfl
theorem str_size (l : List UInt8) : (str l).size = l.length := by show l.toArray.size = _; simp

theorem refShort_str (n : Nat) (z : Int) (hz : z = n) (w : World) (h : n ≤ 65535) :
    Calls Try.prog 52 #[.int .i64 z] w fun e w' => e = .returned (.string (str (be 2 n))) ∧ Foot (fun _ => False) w w' := refShort_any n z hz w h
theorem refWord_str (n : Nat) (z : Int) (hz : z = n) (w : World) (h : n < 4294967296) :
    Calls Try.prog 53 #[.int .u32 z] w fun e w' => e = .returned (.string (str (be 4 n))) ∧ Foot (fun _ => False) w w' := refWord_any n z hz w h
theorem refOf_str (l : List UInt8) (w : World) (hmax : l.length ≤ 1000000) :
    Calls Try.prog 54 #[.string (str l)] w fun e w' => e = .returned (.int .i64 (65535 - refSum l : Nat)) ∧ w = w' := by
  have := refOf_any (str l) w (by rw [str_size]; unfold maxLen; omega)
  rwa [str_toList] at this
theorem refPseudo_str (src dst : Nat) (proto : Int) (size : Int) (w : World) (h1 : src < 4294967296) (h2 : dst < 4294967296) :
    Calls Try.prog 55 #[.int .u32 src, .int .u32 dst, .int .i64 proto, .int .i64 size] w fun e w' => e = .returned (.string (str (pseudo src dst proto size))) ∧ Foot (fun _ => False) w w' := refPseudo_any src dst proto size w h1 h2
theorem pseudo_length (src dst : Nat) (proto size : Int) : (pseudo src dst proto size).length = 12 := by simp [pseudo, beAll_length]
/-- The reference's check sum. -/
def refN (src dst : Nat) (proto : Int) (all : List UInt8) : Nat :=
  let n0 := 65535 - refSum (pseudo src dst proto all.length ++ all)
  if n0 = 0 ∧ proto = 17 then 65535 else n0

def refUdpRes (src dst sp dp : Nat) (data : ByteArray) : List UInt8 := (be 2 sp ++ be 2 dp) ++ (be 2 (8 + data.size)) ++ be 2 (refN src dst 17 ((be 2 sp ++ be 2 dp) ++ (be 2 (8 + data.size)) ++ [0, 0] ++ (data.data.toList))) ++ (data.data.toList)

set_option maxHeartbeats 4000000 in
set_option maxRecDepth 100000 in
theorem refEnc_udp (sp dp : Nat) (data : ByteArray) (src dst : Nat) (w : World) (h1 : sp ≤ 65535) (h2 : dp ≤ 65535) (h3 : data.size ≤ 65507) (hsrc : src < 4294967296) (hdst : dst < 4294967296) :
    Calls Try.prog 15 #[.int .i64 17, .int .u32 src, .int .u32 dst, .agg #[.int .i64 (sp : Nat), .int .i64 (dp : Nat), .int .u32 0, .int .u32 0, .int .i64 0, .int .i64 0, .string data]] w fun e w' => e = .returned (.string (str (refUdpRes src dst sp dp data))) ∧ Below w.heap.size w w' := by
  have hb0 := blk_new w (.cells #[.int .i64 (sp : Nat), .int .i64 (dp : Nat), .int .u32 0, .int .u32 0, .int .i64 0, .int .i64 0, .string data] 24)
  have hbel : Below w.heap.size w (w.alloc (.cells #[.int .i64 (sp : Nat), .int .i64 (dp : Nat), .int .u32 0, .int .u32 0, .int .i64 0, .int .i64 0, .string data] 24)) := (Below.refl _ _).alloc (Nat.le_refl _) _
  go_enter Try.func15, Try.ntmps15
  go_wp2_with (fail)
  generalize w.alloc (.cells #[.int .i64 (sp : Nat), .int .i64 (dp : Nat), .int .u32 0, .int .u32 0, .int .i64 0, .int .i64 0, .string data] 24) = w0 at *
  have hbs : ∀ w', Foot (fun _ => False) w0.drew w' → w'.heap[w.heap.size]? = some (.cells #[.int .i64 (sp : Nat), .int .i64 (dp : Nat), .int .u32 0, .int .u32 0, .int .i64 0, .int .i64 0, .string data] 24 (0, 0)) := fun w' h => h.keep (w := w0.drew) hb0 id
  generalize hbsn : w.heap.size = bs at *
  have HN := Lib.hid hbsn; clear hbsn
  refine wp_region_list (by kernel_rfl) [(some 14, []), (some 15, [0]), (some 16, [1]), (some 17, []), (some 18, [3]), (some 19, [4, 2]), (some 20, [2, 5]), (some 9, [6, 5, 0, 1, 2, 3, 4, 5, 6])] [] 78 8 (Foot (fun _ => False)) (fun i v w => match i with | 0 => v = .pointer (some ⟨bs, 0, none⟩) | 1 => v = .int .i64 (sp : Nat) | 2 => v = .string (str (be 2 sp)) | 3 => v = .pointer (some ⟨bs, 1, none⟩) | 4 => v = .int .i64 (dp : Nat) | 5 => v = .string (str (be 2 dp)) | 6 => v = .string (str (be 2 sp ++ be 2 dp)) | 7 => v = .string (str (be 2 sp ++ be 2 dp)) | _ => True) (fun _ _ => True) (by kernel_rfl) rfl rfl (by kernel_rfl) (Foot.refl _) (fun _ _ _ => Foot.trans) ?Hst ?hst ?howed ?hfin
  case Hst =>
    intro i v w w2 _ hH _
    rcases i with _ | _ | _ | _ | _ | _ | _ | _ | _ <;> exact hH
  case hst =>
    exact trivial
  case howed =>
    refine owed_cons (owed_cons (owed_cons (owed_cons (owed_cons (owed_cons (owed_cons (owed_cons (owed_nil _) ?_) ?_) ?_) ?_) ?_) ?_) ?_) ?_
    · intro a w vs k K hR hp hi hS s1 s2 s3 hK
      have e7 : a.tmps.getD 7 undef = .pointer (some ⟨bs, 0, none⟩) := old_of hi (by kernel_rfl) rfl
      have e7_ := e7; rw [Array.getD_eq_getD_getElem?] at e7_
      clear hp hi s1 s2 s3
      refine wpOp_of rfl rfl ?_
      go_simp
      exact hK _ _ rfl (Foot.refl _ _) trivial
    · intro a w vs k K hR hp hi hS s1 s2 s3 hK
      have e14 : a.tmps.getD 14 undef = .pointer (some ⟨bs, 0, none⟩) := ((hp 0 (by decide)).2 14 rfl).trans (hp 0 (by decide)).1
      have e14_ := e14; rw [Array.getD_eq_getD_getElem?] at e14_
      clear hp hi s1 s2 s3
      have hc : w.cell? ⟨bs, 0, none⟩ = some (.int .i64 (sp : Nat)) := (blk_cell (hbs w hR) 0).trans rfl
      refine wpOp_of rfl rfl ?_
      go_simp
      exact hK _ _ rfl (Foot.refl _ _) trivial
    · intro a w vs k K hR hp hi hS s1 s2 s3 hK
      have e15 : a.tmps.getD 15 undef = .int .i64 (sp : Nat) := ((hp 1 (by decide)).2 15 rfl).trans (hp 1 (by decide)).1
      have e15_ := e15; rw [Array.getD_eq_getD_getElem?] at e15_
      clear hp hi s1 s2 s3
      refine wpOp_of rfl rfl ?_
      go_simp
      refine (refShort_str sp _ rfl w h1).mono ?_
      rintro e w1 ⟨rfl, hf1⟩
      exact hK _ _ rfl hf1 trivial
    · intro a w vs k K hR hp hi hS s1 s2 s3 hK
      have e7 : a.tmps.getD 7 undef = .pointer (some ⟨bs, 0, none⟩) := old_of hi (by kernel_rfl) rfl
      have e7_ := e7; rw [Array.getD_eq_getD_getElem?] at e7_
      clear hp hi s1 s2 s3
      refine wpOp_of rfl rfl ?_
      go_simp
      exact hK _ _ rfl (Foot.refl _ _) trivial
    · intro a w vs k K hR hp hi hS s1 s2 s3 hK
      have e17 : a.tmps.getD 17 undef = .pointer (some ⟨bs, 1, none⟩) := ((hp 3 (by decide)).2 17 rfl).trans (hp 3 (by decide)).1
      have e17_ := e17; rw [Array.getD_eq_getD_getElem?] at e17_
      clear hp hi s1 s2 s3
      have hc : w.cell? ⟨bs, 1, none⟩ = some (.int .i64 (dp : Nat)) := (blk_cell (hbs w hR) 1).trans rfl
      refine wpOp_of rfl rfl ?_
      go_simp
      exact hK _ _ rfl (Foot.refl _ _) trivial
    · intro a w vs k K hR hp hi hS s1 s2 s3 hK
      have e18 : a.tmps.getD 18 undef = .int .i64 (dp : Nat) := ((hp 4 (by decide)).2 18 rfl).trans (hp 4 (by decide)).1
      have e18_ := e18; rw [Array.getD_eq_getD_getElem?] at e18_
      clear hp hi s1 s2 s3
      refine wpOp_of rfl rfl ?_
      go_simp
      refine (refShort_str dp _ rfl w h2).mono ?_
      rintro e w1 ⟨rfl, hf1⟩
      exact hK _ _ rfl hf1 trivial
    · intro a w vs k K hR hp hi hS s1 s2 s3 hK
      have e16 : a.tmps.getD 16 undef = .string (str (be 2 sp)) := ((hp 2 (by decide)).2 16 rfl).trans (hp 2 (by decide)).1
      have e19 : a.tmps.getD 19 undef = .string (str (be 2 dp)) := ((hp 5 (by decide)).2 19 rfl).trans (hp 5 (by decide)).1
      have e16_ := e16; rw [Array.getD_eq_getD_getElem?] at e16_
      have e19_ := e19; rw [Array.getD_eq_getD_getElem?] at e19_
      clear hp hi s1 s2 s3
      refine wpOp_of rfl rfl ?_
      go_simp
      exact hK _ _ (congrArg Value.string (str_append _ _)) (Foot.refl _ _) trivial
    · intro a w vs k K hR hp hi hS s1 s2 s3 hK
      have e20 : a.tmps.getD 20 undef = .string (str (be 2 sp ++ be 2 dp)) := ((hp 6 (by decide)).2 20 rfl).trans (hp 6 (by decide)).1
      have e20_ := e20; rw [Array.getD_eq_getD_getElem?] at e20_
      clear hp hi s1 s2 s3
      refine wpOp_of rfl rfl ?_
      go_simp
      exact hK _ _ rfl (Foot.refl _ _) trivial
  case hfin =>
    intro vs w5 hR5 hH _
    have q0 : vs 0 = .pointer (some ⟨bs, 0, none⟩) := hH 0 (by decide)
    have q1 : vs 1 = .int .i64 (sp : Nat) := hH 1 (by decide)
    have q2 : vs 2 = .string (str (be 2 sp)) := hH 2 (by decide)
    have q3 : vs 3 = .pointer (some ⟨bs, 1, none⟩) := hH 3 (by decide)
    have q4 : vs 4 = .int .i64 (dp : Nat) := hH 4 (by decide)
    have q5 : vs 5 = .string (str (be 2 dp)) := hH 5 (by decide)
    have q6 : vs 6 = .string (str (be 2 sp ++ be 2 dp)) := hH 6 (by decide)
    have q7 : vs 7 = .string (str (be 2 sp ++ be 2 dp)) := hH 7 (by decide)
    clear hH
    simp only [putL, Act.put, List.setIfInBounds_toArray, List.set_cons_zero, List.set_cons_succ, q0, q1, q2, q3, q4, q5, q6, q7]
    clear q0 q1 q2 q3 q4 q5 q6 q7
    have hb5 := hbs w5 hR5
    have hbel5 : Below bs w w5 := hbel.trans ((Below.drew (Below.refl _ w0)).trans ((Foot.below hR5).mono (by have := blk_lt hb0; show bs ≤ w0.heap.size; omega)))
    have hbel5lt : bs ≤ w5.heap.size := Nat.le_of_lt (blk_lt hb5)
    clear hbs hR5 hbel hb0
    have d6 := (cells7 hb5).2.2.2.2.2.2
    have HB5 := Lib.hid hb5; clear hb5
    obtain ⟨A, hA⟩ : ∃ l, l = be 2 sp ++ be 2 dp := ⟨_, rfl⟩
    rw [← hA]
    have HA := Lib.hid hA; clear hA
    have hlenA : A.length = 4 := by rw [HA.out]; simp [be_length]
    have HLA := Lib.hid hlenA; clear hlenA
    go_wp2_with (fail)
    refine (refShort_str (8 + data.size) _ (by omega) w5 (by omega)).mono ?_
    rintro e w6 ⟨rfl, hf6⟩
    have hb6 := hf6.keep HB5.out id
    have hbel6 : Below bs w w6 := hbel5.trans ((Foot.below hf6).mono hbel5lt)
    clear hbel5 hf6 d6 HB5
    obtain ⟨d0, d1, d2, d3, d4, d5, d6⟩ := cells7 hb6
    have HB6 := Lib.hid hb6; clear hb6
    obtain ⟨B, hB⟩ : ∃ l, l = be 2 (8 + data.size) := ⟨_, rfl⟩
    rw [← hB]
    have HB := Lib.hid hB; clear hB
    have hlenB : B.length = 2 := by rw [HB.out]; simp [be_length]
    have HLB := Lib.hid hlenB; clear hlenB
    obtain ⟨C, hC⟩ : ∃ l, l = data.data.toList := ⟨_, rfl⟩
    have HC := Lib.hid hC; clear hC
    have hlenC : C.length = data.size := by rw [HC.out, toList_size]
    have HLC := Lib.hid hlenC; clear hlenC
    have hbel7lt : bs ≤ w6.heap.size := Nat.le_of_lt (blk_lt HB6.out)
    have cC : ∀ l, str l ++ data = str (l ++ C) := fun l => by rw [str_add, HC.out]
    have HCC := Lib.hid cC; clear cC
    obtain ⟨AB, hAB⟩ : ∃ l, l = A ++ B := ⟨_, rfl⟩
    have k1 : str A ++ str B = str AB := by rw [str_append, hAB]
    have z1 : (str A).size = 4 := by rw [str_size, HLA.out]
    have z2 : (str B).size = 2 := by rw [str_size, HLB.out]
    have z3 : (str AB).size = 4 + 2 := by rw [str_size, hAB, List.length_append, HLA.out, HLB.out]
    obtain ⟨AB0, hAB0⟩ : ∃ l, l = AB ++ [0, 0] := ⟨_, rfl⟩
    have k2 : str AB ++ (⟨#[0, 0]⟩ : ByteArray) = str AB0 := by rw [lit2, str_append, hAB0]
    have z4 : (str AB0).size = 6 + 2 := by rw [str_size, hAB0, List.length_append, hAB, List.length_append, HLA.out, HLB.out]; rfl
    obtain ⟨ALL, hALL⟩ : ∃ l, l = AB0 ++ C := ⟨_, rfl⟩
    have k3 : str AB0 ++ data = str ALL := by rw [HCC.out, hALL]
    have hlen : ALL.length = 8 + data.size := by rw [hALL, hAB0, hAB]; simp only [List.length_append, HLA.out, HLB.out, HLC.out, List.length_cons, List.length_nil]; first | done | omega
    obtain ⟨N, hN⟩ : ∃ N, N = ALL.length := ⟨_, rfl⟩
    have k4 : (str ALL).size = N := by rw [str_size, hN]
    have hNle : N ≤ 70000 := by rw [hN, hlen]; omega
    have HALL := Lib.hid hALL; clear hALL
    have HAB0 := Lib.hid hAB0; clear hAB0
    have HAB := Lib.hid hAB; clear hAB
    have HLEN := Lib.hid hlen; clear hlen
    have HN2 := Lib.hid hN; clear hN
    go_wp2_with (fail)
    clear d0 d1 d2 d3 d4 d5 d6
    refine (refPseudo_str src dst 17 _ _ hsrc hdst).mono ?_
    rintro e w8 ⟨rfl, hf8⟩
    have hbel8 : Below bs w w8 := hbel6.trans ((Foot.below hf8).mono hbel7lt)
    have hbel8lt : bs ≤ w8.heap.size := Nat.le_trans hbel7lt hf8.size
    clear hf8 hbel6
    obtain ⟨PS, hPS⟩ : ∃ l, l = pseudo src dst 17 (N : Int) := ⟨_, rfl⟩
    have hlenP : PS.length = 12 := by rw [hPS, pseudo_length]
    rw [← hPS]
    have HPS := Lib.hid hPS; clear hPS
    obtain ⟨PALL, hPALL⟩ : ∃ l, l = PS ++ ALL := ⟨_, rfl⟩
    have k5 : str PS ++ str ALL = str PALL := by rw [str_append, hPALL]
    have hlenPA : PALL.length ≤ 1000000 := by rw [hPALL, List.length_append, hlenP, HLEN.out]; omega
    have z5 : (str PS).size = 12 := by rw [str_size, hlenP]
    have HPALL := Lib.hid hPALL; clear hPALL hlenP
    go_wp2_with (fail)
    refine (refOf_str PALL _ hlenPA).mono ?_
    rintro e w9 ⟨rfl, rfl⟩
    have hn0 : 65535 - refSum PALL ≤ 65535 := by omega
    have HR : Hid (refN src dst 17 ALL = if 65535 - refSum PALL = 0 ∧ (17 : Int) = 17 then 65535 else 65535 - refSum PALL) := by
      show refN _ _ _ _ = _
      unfold refN
      rw [← HN2.out, ← HPS.out, ← HPALL.out]
    generalize 65535 - refSum PALL = n0 at *
    clear k2 k3 k4 k5 z4 z5 hlenPA
    have hgoal : ∀ n, n = refN src dst 17 ALL → (AB ++ be 2 n ++ C) = refUdpRes src dst sp dp data := fun n hn => by
      unfold refUdpRes
      rw [hn, HAB.out, HA.out, HB.out, HC.out, HALL.out, HAB0.out, HAB.out, HA.out, HB.out, HC.out]
    have HG := Lib.hid hgoal; clear hgoal
    by_cases hz : n0 = 0
    · subst hz
      obtain ⟨ABN, hABN⟩ : ∃ l, l = AB ++ be 2 (65535) := ⟨_, rfl⟩
      have k6 : str AB ++ str (be 2 (65535)) = str ABN := by rw [str_append, hABN]
      have k7 : str ABN ++ data = str (ABN ++ C) := by rw [HCC.out]
      have z7 : (str (be 2 (65535))).size = 2 := by rw [str_size, be_length]
      have z8 : (str ABN).size = 6 + 2 := by rw [hABN, ← str_append]; simp [z3, z7]; try omega
      have HABN := Lib.hid hABN; clear hABN
      go_wp2_with (fail)
      refine (refShort_str (65535) _ (by omega) _ (by omega)).mono ?_
      rintro e w10 ⟨rfl, hf10⟩
      go_wp2
      go_ret
      refine ⟨?_, ?_⟩
      · apply ret_str
        rw [HABN.out, HG.out _ (by rw [HR.out]; simp)]
      · rw [HN.out]
        exact hbel8.trans ((Foot.below hf10).mono hbel8lt)
    · have hz1 : ((n0 : Int) == 0) = false := by simp; omega
      have HZ := Lib.hid hz; clear hz
      obtain ⟨ABN, hABN⟩ : ∃ l, l = AB ++ be 2 (n0) := ⟨_, rfl⟩
      have k6 : str AB ++ str (be 2 (n0)) = str ABN := by rw [str_append, hABN]
      have k7 : str ABN ++ data = str (ABN ++ C) := by rw [HCC.out]
      have z7 : (str (be 2 (n0))).size = 2 := by rw [str_size, be_length]
      have z8 : (str ABN).size = 6 + 2 := by rw [hABN, ← str_append]; simp [z3, z7]; try omega
      have HABN := Lib.hid hABN; clear hABN
      go_wp2_with (fail)
      refine (refShort_str (n0) _ (by omega) _ (by omega)).mono ?_
      rintro e w10 ⟨rfl, hf10⟩
      go_wp2
      go_ret
      refine ⟨?_, ?_⟩
      · apply ret_str
        rw [HABN.out, HG.out _ (by rw [HR.out]; simp [HZ.out])]
      · rw [HN.out]
        exact hbel8.trans ((Foot.below hf10).mono hbel8lt)

def refTcpRes (src dst sp dp seq ack fl wi : Nat) (data : ByteArray) : List UInt8 := (be 2 sp ++ be 2 dp) ++ (be 4 seq ++ be 4 ack ++ be 2 (20480 + fl) ++ be 2 wi) ++ be 2 (refN src dst 6 ((be 2 sp ++ be 2 dp) ++ (be 4 seq ++ be 4 ack ++ be 2 (20480 + fl) ++ be 2 wi) ++ [0, 0] ++ ([0, 0] ++ data.data.toList))) ++ ([0, 0] ++ data.data.toList)

set_option maxHeartbeats 4000000 in
set_option maxRecDepth 100000 in
theorem refEnc_tcp (sp dp seq ack fl wi : Nat) (data : ByteArray) (src dst : Nat) (w : World) (h1 : sp ≤ 65535) (h2 : dp ≤ 65535) (h3 : data.size ≤ 65495) (h4 : wi ≤ 65535) (h5 : fl ≤ 63) (h6 : seq < 4294967296) (h7 : ack < 4294967296) (hsrc : src < 4294967296) (hdst : dst < 4294967296) :
    Calls Try.prog 15 #[.int .i64 6, .int .u32 src, .int .u32 dst, .agg #[.int .i64 (sp : Nat), .int .i64 (dp : Nat), .int .u32 (seq : Nat), .int .u32 (ack : Nat), .int .i64 (fl : Nat), .int .i64 (wi : Nat), .string data]] w fun e w' => e = .returned (.string (str (refTcpRes src dst sp dp seq ack fl wi data))) ∧ Below w.heap.size w w' := by
  have hb0 := blk_new w (.cells #[.int .i64 (sp : Nat), .int .i64 (dp : Nat), .int .u32 (seq : Nat), .int .u32 (ack : Nat), .int .i64 (fl : Nat), .int .i64 (wi : Nat), .string data] 24)
  have hbel : Below w.heap.size w (w.alloc (.cells #[.int .i64 (sp : Nat), .int .i64 (dp : Nat), .int .u32 (seq : Nat), .int .u32 (ack : Nat), .int .i64 (fl : Nat), .int .i64 (wi : Nat), .string data] 24)) := (Below.refl _ _).alloc (Nat.le_refl _) _
  go_enter Try.func15, Try.ntmps15
  go_wp2_with (fail)
  generalize w.alloc (.cells #[.int .i64 (sp : Nat), .int .i64 (dp : Nat), .int .u32 (seq : Nat), .int .u32 (ack : Nat), .int .i64 (fl : Nat), .int .i64 (wi : Nat), .string data] 24) = w0 at *
  have hbs : ∀ w', Foot (fun _ => False) w0.drew w' → w'.heap[w.heap.size]? = some (.cells #[.int .i64 (sp : Nat), .int .i64 (dp : Nat), .int .u32 (seq : Nat), .int .u32 (ack : Nat), .int .i64 (fl : Nat), .int .i64 (wi : Nat), .string data] 24 (0, 0)) := fun w' h => h.keep (w := w0.drew) hb0 id
  generalize hbsn : w.heap.size = bs at *
  have HN := Lib.hid hbsn; clear hbsn
  refine wp_region_list (by kernel_rfl) [(some 14, []), (some 15, [0]), (some 16, [1]), (some 17, []), (some 18, [3]), (some 19, [4, 2]), (some 20, [2, 5]), (some 9, [6, 5, 0, 1, 2, 3, 4, 5, 6])] [] 78 8 (Foot (fun _ => False)) (fun i v w => match i with | 0 => v = .pointer (some ⟨bs, 0, none⟩) | 1 => v = .int .i64 (sp : Nat) | 2 => v = .string (str (be 2 sp)) | 3 => v = .pointer (some ⟨bs, 1, none⟩) | 4 => v = .int .i64 (dp : Nat) | 5 => v = .string (str (be 2 dp)) | 6 => v = .string (str (be 2 sp ++ be 2 dp)) | 7 => v = .string (str (be 2 sp ++ be 2 dp)) | _ => True) (fun _ _ => True) (by kernel_rfl) rfl rfl (by kernel_rfl) (Foot.refl _) (fun _ _ _ => Foot.trans) ?Hst ?hst ?howed ?hfin
  case Hst =>
    intro i v w w2 _ hH _
    rcases i with _ | _ | _ | _ | _ | _ | _ | _ | _ <;> exact hH
  case hst =>
    exact trivial
  case howed =>
    refine owed_cons (owed_cons (owed_cons (owed_cons (owed_cons (owed_cons (owed_cons (owed_cons (owed_nil _) ?_) ?_) ?_) ?_) ?_) ?_) ?_) ?_
    · intro a w vs k K hR hp hi hS s1 s2 s3 hK
      have e7 : a.tmps.getD 7 undef = .pointer (some ⟨bs, 0, none⟩) := old_of hi (by kernel_rfl) rfl
      have e7_ := e7; rw [Array.getD_eq_getD_getElem?] at e7_
      clear hp hi s1 s2 s3
      refine wpOp_of rfl rfl ?_
      go_simp
      exact hK _ _ rfl (Foot.refl _ _) trivial
    · intro a w vs k K hR hp hi hS s1 s2 s3 hK
      have e14 : a.tmps.getD 14 undef = .pointer (some ⟨bs, 0, none⟩) := ((hp 0 (by decide)).2 14 rfl).trans (hp 0 (by decide)).1
      have e14_ := e14; rw [Array.getD_eq_getD_getElem?] at e14_
      clear hp hi s1 s2 s3
      have hc : w.cell? ⟨bs, 0, none⟩ = some (.int .i64 (sp : Nat)) := (blk_cell (hbs w hR) 0).trans rfl
      refine wpOp_of rfl rfl ?_
      go_simp
      exact hK _ _ rfl (Foot.refl _ _) trivial
    · intro a w vs k K hR hp hi hS s1 s2 s3 hK
      have e15 : a.tmps.getD 15 undef = .int .i64 (sp : Nat) := ((hp 1 (by decide)).2 15 rfl).trans (hp 1 (by decide)).1
      have e15_ := e15; rw [Array.getD_eq_getD_getElem?] at e15_
      clear hp hi s1 s2 s3
      refine wpOp_of rfl rfl ?_
      go_simp
      refine (refShort_str sp _ rfl w h1).mono ?_
      rintro e w1 ⟨rfl, hf1⟩
      exact hK _ _ rfl hf1 trivial
    · intro a w vs k K hR hp hi hS s1 s2 s3 hK
      have e7 : a.tmps.getD 7 undef = .pointer (some ⟨bs, 0, none⟩) := old_of hi (by kernel_rfl) rfl
      have e7_ := e7; rw [Array.getD_eq_getD_getElem?] at e7_
      clear hp hi s1 s2 s3
      refine wpOp_of rfl rfl ?_
      go_simp
      exact hK _ _ rfl (Foot.refl _ _) trivial
    · intro a w vs k K hR hp hi hS s1 s2 s3 hK
      have e17 : a.tmps.getD 17 undef = .pointer (some ⟨bs, 1, none⟩) := ((hp 3 (by decide)).2 17 rfl).trans (hp 3 (by decide)).1
      have e17_ := e17; rw [Array.getD_eq_getD_getElem?] at e17_
      clear hp hi s1 s2 s3
      have hc : w.cell? ⟨bs, 1, none⟩ = some (.int .i64 (dp : Nat)) := (blk_cell (hbs w hR) 1).trans rfl
      refine wpOp_of rfl rfl ?_
      go_simp
      exact hK _ _ rfl (Foot.refl _ _) trivial
    · intro a w vs k K hR hp hi hS s1 s2 s3 hK
      have e18 : a.tmps.getD 18 undef = .int .i64 (dp : Nat) := ((hp 4 (by decide)).2 18 rfl).trans (hp 4 (by decide)).1
      have e18_ := e18; rw [Array.getD_eq_getD_getElem?] at e18_
      clear hp hi s1 s2 s3
      refine wpOp_of rfl rfl ?_
      go_simp
      refine (refShort_str dp _ rfl w h2).mono ?_
      rintro e w1 ⟨rfl, hf1⟩
      exact hK _ _ rfl hf1 trivial
    · intro a w vs k K hR hp hi hS s1 s2 s3 hK
      have e16 : a.tmps.getD 16 undef = .string (str (be 2 sp)) := ((hp 2 (by decide)).2 16 rfl).trans (hp 2 (by decide)).1
      have e19 : a.tmps.getD 19 undef = .string (str (be 2 dp)) := ((hp 5 (by decide)).2 19 rfl).trans (hp 5 (by decide)).1
      have e16_ := e16; rw [Array.getD_eq_getD_getElem?] at e16_
      have e19_ := e19; rw [Array.getD_eq_getD_getElem?] at e19_
      clear hp hi s1 s2 s3
      refine wpOp_of rfl rfl ?_
      go_simp
      exact hK _ _ (congrArg Value.string (str_append _ _)) (Foot.refl _ _) trivial
    · intro a w vs k K hR hp hi hS s1 s2 s3 hK
      have e20 : a.tmps.getD 20 undef = .string (str (be 2 sp ++ be 2 dp)) := ((hp 6 (by decide)).2 20 rfl).trans (hp 6 (by decide)).1
      have e20_ := e20; rw [Array.getD_eq_getD_getElem?] at e20_
      clear hp hi s1 s2 s3
      refine wpOp_of rfl rfl ?_
      go_simp
      exact hK _ _ rfl (Foot.refl _ _) trivial
  case hfin =>
    intro vs w5 hR5 hH _
    have q0 : vs 0 = .pointer (some ⟨bs, 0, none⟩) := hH 0 (by decide)
    have q1 : vs 1 = .int .i64 (sp : Nat) := hH 1 (by decide)
    have q2 : vs 2 = .string (str (be 2 sp)) := hH 2 (by decide)
    have q3 : vs 3 = .pointer (some ⟨bs, 1, none⟩) := hH 3 (by decide)
    have q4 : vs 4 = .int .i64 (dp : Nat) := hH 4 (by decide)
    have q5 : vs 5 = .string (str (be 2 dp)) := hH 5 (by decide)
    have q6 : vs 6 = .string (str (be 2 sp ++ be 2 dp)) := hH 6 (by decide)
    have q7 : vs 7 = .string (str (be 2 sp ++ be 2 dp)) := hH 7 (by decide)
    clear hH
    simp only [putL, Act.put, List.setIfInBounds_toArray, List.set_cons_zero, List.set_cons_succ, q0, q1, q2, q3, q4, q5, q6, q7]
    clear q0 q1 q2 q3 q4 q5 q6 q7
    have hb5 := hbs w5 hR5
    have hbel5 : Below bs w w5 := hbel.trans ((Below.drew (Below.refl _ w0)).trans ((Foot.below hR5).mono (by have := blk_lt hb0; show bs ≤ w0.heap.size; omega)))
    have hbel5lt : bs ≤ w5.heap.size := Nat.le_of_lt (blk_lt hb5)
    clear hbs hR5 hbel hb0
    have d6 := (cells7 hb5).2.2.2.2.2.2
    have HB5 := Lib.hid hb5; clear hb5
    obtain ⟨A, hA⟩ : ∃ l, l = be 2 sp ++ be 2 dp := ⟨_, rfl⟩
    rw [← hA]
    have HA := Lib.hid hA; clear hA
    have hlenA : A.length = 4 := by rw [HA.out]; simp [be_length]
    have HLA := Lib.hid hlenA; clear hlenA
    go_wp2_with (fail)
    refine (refShort_str (8 + data.size) _ (by omega) w5 (by omega)).mono ?_
    rintro e w6 ⟨rfl, hf6⟩
    have hb6 := hf6.keep HB5.out id
    have hbel6 : Below bs w w6 := hbel5.trans ((Foot.below hf6).mono hbel5lt)
    clear hbel5 hf6 d6 HB5
    obtain ⟨d0, d1, d2, d3, d4, d5, d6⟩ := cells7 hb6
    have HB6 := Lib.hid hb6; clear hb6
    have hbel6lt : bs ≤ w6.heap.size := Nat.le_of_lt (blk_lt HB6.out)
    have hbs : ∀ w', Foot (fun _ => False) w6.drew w' → w'.heap[bs]? = some (.cells #[.int .i64 (sp : Nat), .int .i64 (dp : Nat), .int .u32 (seq : Nat), .int .u32 (ack : Nat), .int .i64 (fl : Nat), .int .i64 (wi : Nat), .string data] 24 (0, 0)) := fun w' h => h.keep (w := w6.drew) HB6.out id
    go_wp2_with (fail)
    refine wp_region_list (by kernel_rfl) [(some 30, []), (some 31, [0]), (some 32, [1]), (some 33, []), (some 34, [3]), (some 35, [4, 2]), (some 36, [2, 5]), (some 37, []), (some 38, [7]), (some 39, [8]), (some 40, [9, 5]), (some 41, [6, 10]), (some 42, []), (some 43, [12]), (some 44, [13, 10]), (some 45, [11, 14]), (some 10, [15, 14, 0, 1, 2, 3, 4, 5, 6, 7, 8, 9, 10, 11, 12, 13, 14, 15])] [] 78 17 (Foot (fun _ => False)) (fun i v w => match i with | 0 => v = .pointer (some ⟨bs, 2, none⟩) | 1 => v = .int .u32 (seq : Nat) | 2 => v = .string (str (be 4 seq)) | 3 => v = .pointer (some ⟨bs, 3, none⟩) | 4 => v = .int .u32 (ack : Nat) | 5 => v = .string (str (be 4 ack)) | 6 => v = .string (str (be 4 seq ++ be 4 ack)) | 7 => v = .pointer (some ⟨bs, 4, none⟩) | 8 => v = .int .i64 (fl : Nat) | 9 => v = .int .i64 (20480 + fl : Nat) | 10 => v = .string (str (be 2 (20480 + fl))) | 11 => v = .string (str (be 4 seq ++ be 4 ack ++ be 2 (20480 + fl))) | 12 => v = .pointer (some ⟨bs, 5, none⟩) | 13 => v = .int .i64 (wi : Nat) | 14 => v = .string (str (be 2 wi)) | 15 => v = .string (str (be 4 seq ++ be 4 ack ++ be 2 (20480 + fl) ++ be 2 wi)) | 16 => v = .string (str (be 4 seq ++ be 4 ack ++ be 2 (20480 + fl) ++ be 2 wi)) | _ => True) (fun _ _ => True) (by kernel_rfl) rfl rfl (by kernel_rfl) (Foot.refl _) (fun _ _ _ => Foot.trans) ?Hst ?hst ?howed ?hfin
    case Hst =>
      intro i v w w2 _ hH _
      rcases i with _ | _ | _ | _ | _ | _ | _ | _ | _ | _ | _ | _ | _ | _ | _ | _ | _ | _ <;> exact hH
    case hst =>
      exact trivial
    case howed =>
      refine owed_cons (owed_cons (owed_cons (owed_cons (owed_cons (owed_cons (owed_cons (owed_cons (owed_cons (owed_cons (owed_cons (owed_cons (owed_cons (owed_cons (owed_cons (owed_cons (owed_cons (owed_nil _) ?_) ?_) ?_) ?_) ?_) ?_) ?_) ?_) ?_) ?_) ?_) ?_) ?_) ?_) ?_) ?_) ?_
      · intro a w vs k K hR hp hi hS s1 s2 s3 hK
        have e7 : a.tmps.getD 7 undef = .pointer (some ⟨bs, 0, none⟩) := old_of hi (by kernel_rfl) rfl
        have e7_ := e7; rw [Array.getD_eq_getD_getElem?] at e7_
        clear hp hi s1 s2 s3
        refine wpOp_of rfl rfl ?_
        go_simp
        exact hK _ _ rfl (Foot.refl _ _) trivial
      · intro a w vs k K hR hp hi hS s1 s2 s3 hK
        have e30 : a.tmps.getD 30 undef = .pointer (some ⟨bs, 2, none⟩) := ((hp 0 (by decide)).2 30 rfl).trans (hp 0 (by decide)).1
        have e30_ := e30; rw [Array.getD_eq_getD_getElem?] at e30_
        clear hp hi s1 s2 s3
        have hc : w.cell? ⟨bs, 2, none⟩ = some (.int .u32 (seq : Nat)) := (blk_cell (hbs w hR) 2).trans rfl
        refine wpOp_of rfl rfl ?_
        go_simp
        exact hK _ _ rfl (Foot.refl _ _) trivial
      · intro a w vs k K hR hp hi hS s1 s2 s3 hK
        have e31 : a.tmps.getD 31 undef = .int .u32 (seq : Nat) := ((hp 1 (by decide)).2 31 rfl).trans (hp 1 (by decide)).1
        have e31_ := e31; rw [Array.getD_eq_getD_getElem?] at e31_
        clear hp hi s1 s2 s3
        refine wpOp_of rfl rfl ?_
        go_simp
        refine (refWord_str seq _ rfl w h6).mono ?_
        rintro e w1 ⟨rfl, hf1⟩
        exact hK _ _ rfl hf1 trivial
      · intro a w vs k K hR hp hi hS s1 s2 s3 hK
        have e7 : a.tmps.getD 7 undef = .pointer (some ⟨bs, 0, none⟩) := old_of hi (by kernel_rfl) rfl
        have e7_ := e7; rw [Array.getD_eq_getD_getElem?] at e7_
        clear hp hi s1 s2 s3
        refine wpOp_of rfl rfl ?_
        go_simp
        exact hK _ _ rfl (Foot.refl _ _) trivial
      · intro a w vs k K hR hp hi hS s1 s2 s3 hK
        have e33 : a.tmps.getD 33 undef = .pointer (some ⟨bs, 3, none⟩) := ((hp 3 (by decide)).2 33 rfl).trans (hp 3 (by decide)).1
        have e33_ := e33; rw [Array.getD_eq_getD_getElem?] at e33_
        clear hp hi s1 s2 s3
        have hc : w.cell? ⟨bs, 3, none⟩ = some (.int .u32 (ack : Nat)) := (blk_cell (hbs w hR) 3).trans rfl
        refine wpOp_of rfl rfl ?_
        go_simp
        exact hK _ _ rfl (Foot.refl _ _) trivial
      · intro a w vs k K hR hp hi hS s1 s2 s3 hK
        have e34 : a.tmps.getD 34 undef = .int .u32 (ack : Nat) := ((hp 4 (by decide)).2 34 rfl).trans (hp 4 (by decide)).1
        have e34_ := e34; rw [Array.getD_eq_getD_getElem?] at e34_
        clear hp hi s1 s2 s3
        refine wpOp_of rfl rfl ?_
        go_simp
        refine (refWord_str ack _ rfl w h7).mono ?_
        rintro e w1 ⟨rfl, hf1⟩
        exact hK _ _ rfl hf1 trivial
      · intro a w vs k K hR hp hi hS s1 s2 s3 hK
        have e32 : a.tmps.getD 32 undef = .string (str (be 4 seq)) := ((hp 2 (by decide)).2 32 rfl).trans (hp 2 (by decide)).1
        have e35 : a.tmps.getD 35 undef = .string (str (be 4 ack)) := ((hp 5 (by decide)).2 35 rfl).trans (hp 5 (by decide)).1
        have e32_ := e32; rw [Array.getD_eq_getD_getElem?] at e32_
        have e35_ := e35; rw [Array.getD_eq_getD_getElem?] at e35_
        clear hp hi s1 s2 s3
        refine wpOp_of rfl rfl ?_
        go_simp
        exact hK _ _ (congrArg Value.string (str_append _ _)) (Foot.refl _ _) trivial
      · intro a w vs k K hR hp hi hS s1 s2 s3 hK
        have e7 : a.tmps.getD 7 undef = .pointer (some ⟨bs, 0, none⟩) := old_of hi (by kernel_rfl) rfl
        have e7_ := e7; rw [Array.getD_eq_getD_getElem?] at e7_
        clear hp hi s1 s2 s3
        refine wpOp_of rfl rfl ?_
        go_simp
        exact hK _ _ rfl (Foot.refl _ _) trivial
      · intro a w vs k K hR hp hi hS s1 s2 s3 hK
        have e37 : a.tmps.getD 37 undef = .pointer (some ⟨bs, 4, none⟩) := ((hp 7 (by decide)).2 37 rfl).trans (hp 7 (by decide)).1
        have e37_ := e37; rw [Array.getD_eq_getD_getElem?] at e37_
        clear hp hi s1 s2 s3
        have hc : w.cell? ⟨bs, 4, none⟩ = some (.int .i64 (fl : Nat)) := (blk_cell (hbs w hR) 4).trans rfl
        refine wpOp_of rfl rfl ?_
        go_simp
        exact hK _ _ rfl (Foot.refl _ _) trivial
      · intro a w vs k K hR hp hi hS s1 s2 s3 hK
        have e38 : a.tmps.getD 38 undef = .int .i64 (fl : Nat) := ((hp 8 (by decide)).2 38 rfl).trans (hp 8 (by decide)).1
        have e38_ := e38; rw [Array.getD_eq_getD_getElem?] at e38_
        clear hp hi s1 s2 s3
        have hw9 : IntKind.i64.wrap (20480 + (fl : Int)) = 20480 + fl := IntWalk.i64_in _ (by omega)
        refine wpOp_of rfl rfl ?_
        go_simp
        exact hK _ _ (congrArg (Value.int .i64) (by omega)) (Foot.refl _ _) trivial
      · intro a w vs k K hR hp hi hS s1 s2 s3 hK
        have e39 : a.tmps.getD 39 undef = .int .i64 (20480 + fl : Nat) := ((hp 9 (by decide)).2 39 rfl).trans (hp 9 (by decide)).1
        have e39_ := e39; rw [Array.getD_eq_getD_getElem?] at e39_
        clear hp hi s1 s2 s3
        refine wpOp_of rfl rfl ?_
        go_simp
        refine (refShort_str (20480 + fl) _ rfl w (by omega)).mono ?_
        rintro e w1 ⟨rfl, hf1⟩
        exact hK _ _ rfl hf1 trivial
      · intro a w vs k K hR hp hi hS s1 s2 s3 hK
        have e36 : a.tmps.getD 36 undef = .string (str (be 4 seq ++ be 4 ack)) := ((hp 6 (by decide)).2 36 rfl).trans (hp 6 (by decide)).1
        have e40 : a.tmps.getD 40 undef = .string (str (be 2 (20480 + fl))) := ((hp 10 (by decide)).2 40 rfl).trans (hp 10 (by decide)).1
        have e36_ := e36; rw [Array.getD_eq_getD_getElem?] at e36_
        have e40_ := e40; rw [Array.getD_eq_getD_getElem?] at e40_
        clear hp hi s1 s2 s3
        refine wpOp_of rfl rfl ?_
        go_simp
        exact hK _ _ (congrArg Value.string (str_append _ _)) (Foot.refl _ _) trivial
      · intro a w vs k K hR hp hi hS s1 s2 s3 hK
        have e7 : a.tmps.getD 7 undef = .pointer (some ⟨bs, 0, none⟩) := old_of hi (by kernel_rfl) rfl
        have e7_ := e7; rw [Array.getD_eq_getD_getElem?] at e7_
        clear hp hi s1 s2 s3
        refine wpOp_of rfl rfl ?_
        go_simp
        exact hK _ _ rfl (Foot.refl _ _) trivial
      · intro a w vs k K hR hp hi hS s1 s2 s3 hK
        have e42 : a.tmps.getD 42 undef = .pointer (some ⟨bs, 5, none⟩) := ((hp 12 (by decide)).2 42 rfl).trans (hp 12 (by decide)).1
        have e42_ := e42; rw [Array.getD_eq_getD_getElem?] at e42_
        clear hp hi s1 s2 s3
        have hc : w.cell? ⟨bs, 5, none⟩ = some (.int .i64 (wi : Nat)) := (blk_cell (hbs w hR) 5).trans rfl
        refine wpOp_of rfl rfl ?_
        go_simp
        exact hK _ _ rfl (Foot.refl _ _) trivial
      · intro a w vs k K hR hp hi hS s1 s2 s3 hK
        have e43 : a.tmps.getD 43 undef = .int .i64 (wi : Nat) := ((hp 13 (by decide)).2 43 rfl).trans (hp 13 (by decide)).1
        have e43_ := e43; rw [Array.getD_eq_getD_getElem?] at e43_
        clear hp hi s1 s2 s3
        refine wpOp_of rfl rfl ?_
        go_simp
        refine (refShort_str wi _ rfl w h4).mono ?_
        rintro e w1 ⟨rfl, hf1⟩
        exact hK _ _ rfl hf1 trivial
      · intro a w vs k K hR hp hi hS s1 s2 s3 hK
        have e41 : a.tmps.getD 41 undef = .string (str (be 4 seq ++ be 4 ack ++ be 2 (20480 + fl))) := ((hp 11 (by decide)).2 41 rfl).trans (hp 11 (by decide)).1
        have e44 : a.tmps.getD 44 undef = .string (str (be 2 wi)) := ((hp 14 (by decide)).2 44 rfl).trans (hp 14 (by decide)).1
        have e41_ := e41; rw [Array.getD_eq_getD_getElem?] at e41_
        have e44_ := e44; rw [Array.getD_eq_getD_getElem?] at e44_
        clear hp hi s1 s2 s3
        refine wpOp_of rfl rfl ?_
        go_simp
        exact hK _ _ (congrArg Value.string (str_append _ _)) (Foot.refl _ _) trivial
      · intro a w vs k K hR hp hi hS s1 s2 s3 hK
        have e45 : a.tmps.getD 45 undef = .string (str (be 4 seq ++ be 4 ack ++ be 2 (20480 + fl) ++ be 2 wi)) := ((hp 15 (by decide)).2 45 rfl).trans (hp 15 (by decide)).1
        have e45_ := e45; rw [Array.getD_eq_getD_getElem?] at e45_
        clear hp hi s1 s2 s3
        refine wpOp_of rfl rfl ?_
        go_simp
        exact hK _ _ rfl (Foot.refl _ _) trivial
    case hfin =>
      intro vs w5 hR5 hH _
      have q0 : vs 0 = .pointer (some ⟨bs, 2, none⟩) := hH 0 (by decide)
      have q1 : vs 1 = .int .u32 (seq : Nat) := hH 1 (by decide)
      have q2 : vs 2 = .string (str (be 4 seq)) := hH 2 (by decide)
      have q3 : vs 3 = .pointer (some ⟨bs, 3, none⟩) := hH 3 (by decide)
      have q4 : vs 4 = .int .u32 (ack : Nat) := hH 4 (by decide)
      have q5 : vs 5 = .string (str (be 4 ack)) := hH 5 (by decide)
      have q6 : vs 6 = .string (str (be 4 seq ++ be 4 ack)) := hH 6 (by decide)
      have q7 : vs 7 = .pointer (some ⟨bs, 4, none⟩) := hH 7 (by decide)
      have q8 : vs 8 = .int .i64 (fl : Nat) := hH 8 (by decide)
      have q9 : vs 9 = .int .i64 (20480 + fl : Nat) := hH 9 (by decide)
      have q10 : vs 10 = .string (str (be 2 (20480 + fl))) := hH 10 (by decide)
      have q11 : vs 11 = .string (str (be 4 seq ++ be 4 ack ++ be 2 (20480 + fl))) := hH 11 (by decide)
      have q12 : vs 12 = .pointer (some ⟨bs, 5, none⟩) := hH 12 (by decide)
      have q13 : vs 13 = .int .i64 (wi : Nat) := hH 13 (by decide)
      have q14 : vs 14 = .string (str (be 2 wi)) := hH 14 (by decide)
      have q15 : vs 15 = .string (str (be 4 seq ++ be 4 ack ++ be 2 (20480 + fl) ++ be 2 wi)) := hH 15 (by decide)
      have q16 : vs 16 = .string (str (be 4 seq ++ be 4 ack ++ be 2 (20480 + fl) ++ be 2 wi)) := hH 16 (by decide)
      clear hH
      simp only [putL, Act.put, List.setIfInBounds_toArray, List.set_cons_zero, List.set_cons_succ, q0, q1, q2, q3, q4, q5, q6, q7, q8, q9, q10, q11, q12, q13, q14, q15, q16]
      clear q0 q1 q2 q3 q4 q5 q6 q7 q8 q9 q10 q11 q12 q13 q14 q15 q16
      have hb7 := hbs w5 hR5
      have hbel7lt : bs ≤ w5.heap.size := Nat.le_of_lt (blk_lt hb7)
      have hbel7 : Below bs w w5 := hbel6.trans ((Below.drew (Below.refl _ w6)).trans ((Foot.below hR5).mono hbel6lt))
      clear hbs hR5 hbel6
      obtain ⟨d0, d1, d2, d3, d4, d5, d6⟩ := cells7 hb7
      clear hb7
      obtain ⟨B, hB⟩ : ∃ l, l = be 4 seq ++ be 4 ack ++ be 2 (20480 + fl) ++ be 2 wi := ⟨_, rfl⟩
      rw [← hB]
      have HB := Lib.hid hB; clear hB
      have hlenB : B.length = 12 := by rw [HB.out]; simp [be_length]
      have HLB := Lib.hid hlenB; clear hlenB
      obtain ⟨C, hC⟩ : ∃ l, l = [0, 0] ++ data.data.toList := ⟨_, rfl⟩
      have cC : (⟨#[0, 0]⟩ : ByteArray) ++ data = str C := by rw [lit2, str_add, hC]
      have HC := Lib.hid hC; clear hC
      have hlenC : C.length = 2 + data.size := by rw [HC.out, List.length_append, toList_size]; simp
      have HLC := Lib.hid hlenC; clear hlenC
      obtain ⟨AB, hAB⟩ : ∃ l, l = A ++ B := ⟨_, rfl⟩
      have k1 : str A ++ str B = str AB := by rw [str_append, hAB]
      have z1 : (str A).size = 4 := by rw [str_size, HLA.out]
      have z2 : (str B).size = 12 := by rw [str_size, HLB.out]
      have z3 : (str AB).size = 4 + 12 := by rw [str_size, hAB, List.length_append, HLA.out, HLB.out]
      have z6 : (str C).size = 2 + data.size := by rw [str_size, HLC.out]
      obtain ⟨AB0, hAB0⟩ : ∃ l, l = AB ++ [0, 0] := ⟨_, rfl⟩
      have k2 : str AB ++ (⟨#[0, 0]⟩ : ByteArray) = str AB0 := by rw [lit2, str_append, hAB0]
      have z4 : (str AB0).size = 6 + 12 := by rw [str_size, hAB0, List.length_append, hAB, List.length_append, HLA.out, HLB.out]; rfl
      obtain ⟨ALL, hALL⟩ : ∃ l, l = AB0 ++ C := ⟨_, rfl⟩
      have k3 : str AB0 ++ str C = str ALL := by rw [str_append, hALL]
      have hlen : ALL.length = 20 + data.size := by rw [hALL, hAB0, hAB]; simp only [List.length_append, HLA.out, HLB.out, HLC.out, List.length_cons, List.length_nil]; first | done | omega
      obtain ⟨N, hN⟩ : ∃ N, N = ALL.length := ⟨_, rfl⟩
      have k4 : (str ALL).size = N := by rw [str_size, hN]
      have hNle : N ≤ 70000 := by rw [hN, hlen]; omega
      have HALL := Lib.hid hALL; clear hALL
      have HAB0 := Lib.hid hAB0; clear hAB0
      have HAB := Lib.hid hAB; clear hAB
      have HLEN := Lib.hid hlen; clear hlen
      have HN2 := Lib.hid hN; clear hN
      go_wp2_with (fail)
      clear d0 d1 d2 d3 d4 d5 d6
      refine (refPseudo_str src dst 6 _ _ hsrc hdst).mono ?_
      rintro e w8 ⟨rfl, hf8⟩
      have hbel8 : Below bs w w8 := hbel7.trans ((Foot.below hf8).mono hbel7lt)
      have hbel8lt : bs ≤ w8.heap.size := Nat.le_trans hbel7lt hf8.size
      clear hf8 hbel7
      obtain ⟨PS, hPS⟩ : ∃ l, l = pseudo src dst 6 (N : Int) := ⟨_, rfl⟩
      have hlenP : PS.length = 12 := by rw [hPS, pseudo_length]
      rw [← hPS]
      have HPS := Lib.hid hPS; clear hPS
      obtain ⟨PALL, hPALL⟩ : ∃ l, l = PS ++ ALL := ⟨_, rfl⟩
      have k5 : str PS ++ str ALL = str PALL := by rw [str_append, hPALL]
      have hlenPA : PALL.length ≤ 1000000 := by rw [hPALL, List.length_append, hlenP, HLEN.out]; omega
      have z5 : (str PS).size = 12 := by rw [str_size, hlenP]
      have HPALL := Lib.hid hPALL; clear hPALL hlenP
      go_wp2_with (fail)
      refine (refOf_str PALL _ hlenPA).mono ?_
      rintro e w9 ⟨rfl, rfl⟩
      have hn0 : 65535 - refSum PALL ≤ 65535 := by omega
      have HR : Hid (refN src dst 6 ALL = if 65535 - refSum PALL = 0 ∧ (6 : Int) = 17 then 65535 else 65535 - refSum PALL) := by
        show refN _ _ _ _ = _
        unfold refN
        rw [← HN2.out, ← HPS.out, ← HPALL.out]
      generalize 65535 - refSum PALL = n0 at *
      clear cC k2 k3 k4 k5 z4 z5 hlenPA
      have hgoal : ∀ n, n = refN src dst 6 ALL → (AB ++ be 2 n ++ C) = refTcpRes src dst sp dp seq ack fl wi data := fun n hn => by
        unfold refTcpRes
        rw [hn, HAB.out, HA.out, HB.out, HC.out, HALL.out, HAB0.out, HAB.out, HA.out, HB.out, HC.out]
      have HG := Lib.hid hgoal; clear hgoal
      by_cases hz : n0 = 0
      · subst hz
        obtain ⟨ABN, hABN⟩ : ∃ l, l = AB ++ be 2 (0) := ⟨_, rfl⟩
        have k6 : str AB ++ str (be 2 (0)) = str ABN := by rw [str_append, hABN]
        have k7 : str ABN ++ str C = str (ABN ++ C) := by rw [str_append]
        have z7 : (str (be 2 (0))).size = 2 := by rw [str_size, be_length]
        have z8 : (str ABN).size = 6 + 12 := by rw [hABN, ← str_append]; simp [z3, z7]; try omega
        have HABN := Lib.hid hABN; clear hABN
        go_wp2_with (fail)
        refine (refShort_str (0) _ (by omega) _ (by omega)).mono ?_
        rintro e w10 ⟨rfl, hf10⟩
        go_wp2
        go_ret
        refine ⟨?_, ?_⟩
        · apply ret_str
          rw [HABN.out, HG.out _ (by rw [HR.out]; simp)]
        · rw [HN.out]
          exact hbel8.trans ((Foot.below hf10).mono hbel8lt)
      · have hz1 : ((n0 : Int) == 0) = false := by simp; omega
        have HZ := Lib.hid hz; clear hz
        obtain ⟨ABN, hABN⟩ : ∃ l, l = AB ++ be 2 (n0) := ⟨_, rfl⟩
        have k6 : str AB ++ str (be 2 (n0)) = str ABN := by rw [str_append, hABN]
        have k7 : str ABN ++ str C = str (ABN ++ C) := by rw [str_append]
        have z7 : (str (be 2 (n0))).size = 2 := by rw [str_size, be_length]
        have z8 : (str ABN).size = 6 + 12 := by rw [hABN, ← str_append]; simp [z3, z7]; try omega
        have HABN := Lib.hid hABN; clear hABN
        go_wp2_with (fail)
        refine (refShort_str (n0) _ (by omega) _ (by omega)).mono ?_
        rintro e w10 ⟨rfl, hf10⟩
        go_wp2
        go_ret
        refine ⟨?_, ?_⟩
        · apply ret_str
          rw [HABN.out, HG.out _ (by rw [HR.out]; simp [HZ.out])]
        · rw [HN.out]
          exact hbel8.trans ((Foot.below hf10).mono hbel8lt)

end Go.Proofs.Ytcmgfmpmapnckaa
