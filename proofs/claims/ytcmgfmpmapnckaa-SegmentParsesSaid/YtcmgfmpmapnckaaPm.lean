/- Plain laws: what is encoded is read as it was. -/
import Derived.Test.YtcmgfmpmapnckaaPl
namespace Go.Proofs.Ytcmgfmpmapnckaa
open Go.RowKit
set_option linter.unusedVariables false
set_option linter.unusedSimpArgs false

theorem tl_str (l : List UInt8) (i : Nat) : tl (str l) i = str (l.drop i) := by
  apply ByteArray.ext
  unfold tl
  rw [str_size]
  simp [str]
  rw [List.take_of_length_le (by simp)]
theorem hd_str (l : List UInt8) (i : Nat) : hd (str l) i = str (l.take i) := by
  apply ByteArray.ext
  unfold hd
  simp [str]
theorem rnum_str (l : List UInt8) (n : Nat) : rnum (str l) n = num (l.take n) := by
  unfold rnum; rw [hd_str, str_toList]

theorem drop_len (a b : List UInt8) (i : Nat) (h : a.length = i) : (a ++ b).drop i = b := by subst h; simp
theorem take_len (a b : List UInt8) (i : Nat) (h : a.length = i) : (a ++ b).take i = a := by subst h; simp

theorem rnum_at {l : List UInt8} (A X B : List UInt8) (i n : Nat) (h : l = A ++ (X ++ B)) (hA : A.length = i) (hX : X.length = n) : rnum (tl (str l) i) n = num X := by
  rw [h, tl_str, rnum_str, drop_len _ _ _ hA, take_len _ _ _ hX]

theorem num_be2 (n : Nat) (h : n ≤ 65535) : num (be 2 n) = n := by
  simp [be, num, UInt8.toNat_ofNat']; omega
theorem num_be4 (n : Nat) (h : n < 4294967296) : num (be 4 n) = n := by
  simp [be, num, UInt8.toNat_ofNat']; omega

theorem W_even (e : Bool) (a b : List UInt8) (h : a.length % 2 = 0) : W e (a ++ b) = W e a + W e b := by rw [W_append, if_pos h]

theorem good_of (p : Int) (src dst : Nat) (A C : List UInt8) (hA : A.length % 2 = 0) (n : Nat)
    (hn : n = refN src dst p (A ++ [0, 0] ++ C)) : goodB p src dst (str (A ++ be 2 n ++ C)) = true := by
  have hlen : (A ++ be 2 n ++ C).length = (A ++ [0, 0] ++ C).length := by simp only [List.length_append, be_length, List.length_cons, List.length_nil]
  unfold goodB
  rw [str_size, str_toList, hlen]
  unfold refN at hn
  simp only [sums_same] at hn
  have hps : (pseudo src dst p ((A ++ [0, 0] ++ C).length : Nat)).length = 12 := pseudo_length _ _ _ _
  generalize pseudo src dst p ((A ++ [0, 0] ++ C).length : Nat) = PS at *
  have hb : n ≤ 65535 := by
    rw [hn]; split
    · exact Nat.le_refl _
    · rw [ofSum_W]; omega
  have h2 : (be 2 n).length % 2 = 0 := by rw [be_length]
  have h3 : PS.length % 2 = 0 := by rw [hps]
  have w1 : W true (PS ++ (A ++ be 2 n ++ C)) = W true PS + (W true A + (n + W true C)) := by
    rw [W_even _ _ _ h3, List.append_assoc, W_even _ _ _ hA, W_even _ _ _ h2, W_be2 n hb]
  have w2 : W true (PS ++ (A ++ [0, 0] ++ C)) = W true PS + (W true A + W true C) := by
    rw [W_even _ _ _ h3, List.append_assoc, W_even _ _ _ hA, W_even _ _ _ (by rfl : [(0 : UInt8), 0].length % 2 = 0)]
    simp [W, wt]
  rw [ofSum_W, w2] at hn
  rw [ofSum_W, w1]
  generalize ht : W true PS + (W true A + W true C) = t at *
  have e : W true PS + (W true A + (n + W true C)) = t + n := by omega
  rw [e]
  clear e w1 w2 ht hlen
  have h0 := norm_zero t
  have key : norm (t + n) = 65535 := by
    have hle := norm_le t
    by_cases ht0 : t = 0
    · subst ht0
      have : norm 0 = 0 := rfl
      rw [this] at hn
      have hn2 : n = 65535 := by rw [hn]; split <;> rfl
      rw [hn2]; rfl
    · have hnt : norm t = (t - 1) % 65535 + 1 := by unfold norm; rw [if_neg ht0]
      have hne : t + n ≠ 0 := by omega
      unfold norm
      rw [if_neg hne]
      split at hn <;> omega
  rw [key]; rfl

theorem be2_cons (n : Nat) : be 2 n = [UInt8.ofNat (n / 256)] ++ [UInt8.ofNat n] := by simp [be]
theorem num_one (c : UInt8) : num [c] = c.toNat := by simp [num]

section
variable (src dst sp dp : Nat) (data : ByteArray)

theorem tcp_reads (seq ack fl wi : Nat) (h1 : sp ≤ 65535) (h2 : dp ≤ 65535) (h4 : wi ≤ 65535) (h5 : fl ≤ 63) (h6 : seq < 4294967296) (h7 : ack < 4294967296) :
    let b := str (refTcpRes src dst sp dp seq ack fl wi data)
    parseCode 6 src dst b = 0 ∧ parseSeg 6 src dst b = ⟨(sp : Nat), (dp : Nat), (seq : Nat), (ack : Nat), (fl : Nat), (wi : Nat), data⟩ := by
  intro b
  have hgood : goodB 6 src dst b = true := good_of 6 src dst ((be 2 sp ++ be 2 dp) ++ (be 4 seq ++ be 4 ack ++ be 2 (20480 + fl) ++ be 2 wi)) ([0, 0] ++ data.data.toList) (by simp [be_length]) _ rfl
  have hl : refTcpRes src dst sp dp seq ack fl wi data = (be 2 sp ++ be 2 dp ++ (be 4 seq ++ be 4 ack ++ be 2 (20480 + fl) ++ be 2 wi)) ++ be 2 (refN src dst 6 (be 2 sp ++ be 2 dp ++ (be 4 seq ++ be 4 ack ++ be 2 (20480 + fl) ++ be 2 wi) ++ [0, 0] ++ ([0, 0] ++ data.data.toList))) ++ ([0, 0] ++ data.data.toList) := rfl
  generalize refN src dst 6 (be 2 sp ++ be 2 dp ++ (be 4 seq ++ be 4 ack ++ be 2 (20480 + fl) ++ be 2 wi) ++ [0, 0] ++ ([0, 0] ++ data.data.toList)) = n at *
  have hb : b = str (refTcpRes src dst sp dp seq ack fl wi data) := rfl
  generalize refTcpRes src dst sp dp seq ack fl wi data = l at *
  have hsize : b.size = 20 + data.size := by
    rw [hb, str_size, hl]; simp only [List.length_append, be_length, toList_size, List.length_cons, List.length_nil]; omega
  have r0 : rnum (tl b 0) 2 = sp := by
    rw [hb, rnum_at [] (be 2 sp) (be 2 dp ++ (be 4 seq ++ (be 4 ack ++ (be 2 (20480 + fl) ++ (be 2 wi ++ (be 2 n ++ ([0, 0] ++ data.data.toList))))))) 0 2 (by rw [hl]; simp only [List.append_assoc, List.nil_append]) rfl (be_length _ _), num_be2 _ h1]
  have r2 : rnum (tl b 2) 2 = dp := by
    rw [hb, rnum_at (be 2 sp) (be 2 dp) (be 4 seq ++ (be 4 ack ++ (be 2 (20480 + fl) ++ (be 2 wi ++ (be 2 n ++ ([0, 0] ++ data.data.toList)))))) 2 2 (by rw [hl]; simp only [List.append_assoc]) (be_length _ _) (be_length _ _), num_be2 _ h2]
  have r4 : rnum (tl b 4) 4 = seq := by
    rw [hb, rnum_at (be 2 sp ++ be 2 dp) (be 4 seq) (be 4 ack ++ (be 2 (20480 + fl) ++ (be 2 wi ++ (be 2 n ++ ([0, 0] ++ data.data.toList))))) 4 4 (by rw [hl]; simp only [List.append_assoc]) (by simp [be_length]) (be_length _ _), num_be4 _ h6]
  have r8 : rnum (tl b 8) 4 = ack := by
    rw [hb, rnum_at (be 2 sp ++ be 2 dp ++ be 4 seq) (be 4 ack) (be 2 (20480 + fl) ++ (be 2 wi ++ (be 2 n ++ ([0, 0] ++ data.data.toList)))) 8 4 (by rw [hl]; simp only [List.append_assoc]) (by simp [be_length]) (be_length _ _), num_be4 _ h7]
  have r12 : rnum (tl b 12) 1 = 80 := by
    rw [hb, rnum_at (be 2 sp ++ be 2 dp ++ be 4 seq ++ be 4 ack) [UInt8.ofNat ((20480 + fl) / 256)] ([UInt8.ofNat (20480 + fl)] ++ (be 2 wi ++ (be 2 n ++ ([0, 0] ++ data.data.toList)))) 12 1 (by rw [hl, be2_cons (20480 + fl)]; simp only [List.append_assoc]) (by simp [be_length]) rfl, num_one, UInt8.toNat_ofNat']
    omega
  have r13 : rnum (tl b 13) 1 = fl := by
    rw [hb, rnum_at (be 2 sp ++ be 2 dp ++ be 4 seq ++ be 4 ack ++ [UInt8.ofNat ((20480 + fl) / 256)]) [UInt8.ofNat (20480 + fl)] (be 2 wi ++ (be 2 n ++ ([0, 0] ++ data.data.toList))) 13 1 (by rw [hl, be2_cons (20480 + fl)]; simp only [List.append_assoc]) (by simp [be_length]) rfl, num_one, UInt8.toNat_ofNat']
    omega
  have r14 : rnum (tl b 14) 2 = wi := by
    rw [hb, rnum_at (be 2 sp ++ be 2 dp ++ be 4 seq ++ be 4 ack ++ be 2 (20480 + fl)) (be 2 wi) (be 2 n ++ ([0, 0] ++ data.data.toList)) 14 2 (by rw [hl]; simp only [List.append_assoc]) (by simp [be_length]) (be_length _ _), num_be2 _ h4]
  have rd : tl b 20 = data := by
    rw [hb, tl_str, hl, ← List.append_assoc, drop_len _ _ 20 (by simp [be_length]), str_data]
  have hcode : parseCode 6 src dst b = 0 := by
    unfold parseCode tcpCode
    rw [if_pos rfl, hgood, hsize, r12]
    rw [if_neg (by omega), if_neg (by decide), if_neg (by omega)]; rfl
  refine ⟨hcode, ?_⟩
  unfold parseSeg tcpSeg
  rw [hcode, r0, r2, r4, r8, r12, r13, r14]
  simp only [if_true]
  rw [show 80 / 16 * 4 = 20 from rfl, rd, Nat.mod_eq_of_lt (by omega)]

theorem udp_reads (h1 : sp ≤ 65535) (h2 : dp ≤ 65535) (h3 : data.size ≤ 65507) :
    let b := str (refUdpRes src dst sp dp data)
    parseCode 17 src dst b = 0 ∧ parseSeg 17 src dst b = ⟨(sp : Nat), (dp : Nat), 0, 0, 0, 0, data⟩ := by
  intro b
  have hgood : goodB 17 src dst b = true := good_of 17 src dst ((be 2 sp ++ be 2 dp) ++ (be 2 (8 + data.size))) (data.data.toList) (by simp [be_length]) _ rfl
  have hl : refUdpRes src dst sp dp data = (be 2 sp ++ be 2 dp ++ (be 2 (8 + data.size))) ++ be 2 (refN src dst 17 (be 2 sp ++ be 2 dp ++ (be 2 (8 + data.size)) ++ [0, 0] ++ (data.data.toList))) ++ (data.data.toList) := rfl
  generalize refN src dst 17 (be 2 sp ++ be 2 dp ++ (be 2 (8 + data.size)) ++ [0, 0] ++ (data.data.toList)) = n at *
  have hb : b = str (refUdpRes src dst sp dp data) := rfl
  generalize refUdpRes src dst sp dp data = l at *
  have hsize : b.size = 8 + data.size := by
    rw [hb, str_size, hl]; simp only [List.length_append, be_length, toList_size]
  have r0 : rnum (tl b 0) 2 = sp := by
    rw [hb, rnum_at [] (be 2 sp) (be 2 dp ++ (be 2 (8 + data.size) ++ (be 2 n ++ data.data.toList))) 0 2 (by rw [hl]; simp only [List.append_assoc, List.nil_append]) rfl (be_length _ _), num_be2 _ h1]
  have r2 : rnum (tl b 2) 2 = dp := by
    rw [hb, rnum_at (be 2 sp) (be 2 dp) (be 2 (8 + data.size) ++ (be 2 n ++ data.data.toList)) 2 2 (by rw [hl]; simp only [List.append_assoc]) (be_length _ _) (be_length _ _), num_be2 _ h2]
  have r4 : rnum (tl b 4) 2 = 8 + data.size := by
    rw [hb, rnum_at (be 2 sp ++ be 2 dp) (be 2 (8 + data.size)) (be 2 n ++ data.data.toList) 4 2 (by rw [hl]; simp only [List.append_assoc]) (by simp [be_length]) (be_length _ _), num_be2 _ (by omega)]
  have rd : tl b 8 = data := by
    rw [hb, tl_str, hl, drop_len _ _ 8 (by simp [be_length]), str_data]
  have hcode : parseCode 17 src dst b = 0 := by
    unfold parseCode udpCode
    rw [if_neg (by decide), if_pos rfl, hgood, hsize, r4]
    rw [if_neg (by omega), if_neg (by omega), if_neg (by omega), if_neg (by omega)]
    split <;> rfl
  refine ⟨hcode, ?_⟩
  unfold parseSeg udpSeg
  rw [hcode, r0, r2, rd]
  rfl
end

end Go.Proofs.Ytcmgfmpmapnckaa
