/- Plain laws: of right bytes, one bit turned, the sum isn't good. -/
import Derived.Test.YtcmgfmpmapnckaaSgB
namespace Go.Proofs.Ytcmgfmpmapnckaa
open Go.RowKit
set_option linter.unusedVariables false
set_option linter.unusedSimpArgs false

theorem W_set (c : UInt8) : ∀ (l : List UInt8) (e : Bool) (i : Nat), i < l.length →
    W e (l.set i c) + wt (if i % 2 = 0 then e else !e) (l.getD i 0) = W e l + wt (if i % 2 = 0 then e else !e) c := by
  intro l
  induction l with
  | nil => intro e i h; simp at h
  | cons a l ih =>
    intro e i h
    cases i with
    | zero => simp [W]; omega
    | succ i =>
      have := ih (!e) i (by simpa using h)
      simp only [List.set_cons_succ, W, List.getD_cons_succ]
      by_cases hp : i % 2 = 0
      · rw [if_pos hp] at this
        rw [if_neg (by omega)]
        omega
      · rw [if_neg hp, Bool.not_not] at this
        rw [if_pos (by omega)]
        omega

theorem xor_bit : ∀ c : Fin 256, ∀ m : Fin 8, c.val ^^^ 2 ^ m.val = c.val + 2 ^ m.val ∨ (c.val ^^^ 2 ^ m.val) + 2 ^ m.val = c.val := by decide +kernel

theorem flip_W (e : Bool) (l : List UInt8) (k : Nat) (h : k / 8 < l.length) :
    ∃ d, 1 ≤ d ∧ d ≤ 32768 ∧ (W e (flip l k) = W e l + d ∨ W e (flip l k) + d = W e l) := by
  have h1 := W_set (UInt8.ofNat ((l.getD (k / 8) 0).toNat ^^^ 2 ^ (k % 8))) l e (k / 8) h
  have hc := (l.getD (k / 8) 0).toNat_lt
  have hm : k % 8 < 8 := Nat.mod_lt _ (by decide)
  have hx := xor_lt _ _ hc hm
  have hb := xor_bit ⟨_, hc⟩ ⟨_, hm⟩
  simp only at hb
  have hp1 : 1 ≤ 2 ^ (k % 8) := Nat.one_le_two_pow
  have hp2 : 2 ^ (k % 8) ≤ 128 := by have : 2 ^ (k % 8) ≤ 2 ^ 7 := Nat.pow_le_pow_right (by decide) (by omega); omega
  unfold flip
  generalize hx' : (l.getD (k / 8) 0).toNat ^^^ 2 ^ (k % 8) = x' at *
  have hn : (UInt8.ofNat x').toNat = x' := by rw [UInt8.toNat_ofNat']; omega
  generalize W e (l.set (k / 8) (UInt8.ofNat x')) = A at *
  generalize W e l = B at *
  generalize 2 ^ (k % 8) = p at *
  by_cases hpar : (if k / 8 % 2 = 0 then e else !e) = true
  · rw [hpar] at h1
    simp only [wt, if_true, hn] at h1
    exact ⟨p * 256, by omega, by omega, by omega⟩
  · have hpar' : (if k / 8 % 2 = 0 then e else !e) = false := by simpa using hpar
    rw [hpar'] at h1
    simp only [wt, Bool.false_eq_true, if_false, hn] at h1
    exact ⟨p, by omega, by omega, by omega⟩

theorem flip_length (l : List UInt8) (k : Nat) : (flip l k).length = l.length := by unfold flip; simp

theorem flip_bad (p : Int) (src dst : Nat) (l : List UInt8) (k : Nat) (h : k < 8 * l.length) (hg : goodB p src dst (str l) = true) : goodB p src dst (str (flip l k)) = false := by
  unfold goodB at *
  rw [str_size, str_toList] at *
  rw [flip_length]
  have hps : (pseudo src dst p (l.length : Nat)).length = 12 := pseudo_length _ _ _ _
  generalize pseudo src dst p (l.length : Nat) = PS at *
  have h3 : PS.length % 2 = 0 := by rw [hps]
  rw [ofSum_W, W_even _ _ _ h3] at *
  obtain ⟨d, d1, d2, hd⟩ := flip_W true l k (by omega)
  have hg' := of_decide_eq_true hg
  rw [decide_eq_false_iff_not]
  intro hbad
  have n1 := norm_le (W true PS + W true l)
  have n2 := norm_le (W true PS + W true (flip l k))
  have m1 : norm (W true PS + W true l) = 65535 := by omega
  have m2 : norm (W true PS + W true (flip l k)) = 65535 := by omega
  generalize W true PS = a at *
  generalize W true l = b at *
  generalize W true (flip l k) = c at *
  unfold norm at m1 m2
  split at m1
  · omega
  · split at m2
    · omega
    · omega

theorem tcp_good (src dst sp dp seq ack fl wi : Nat) (data : ByteArray) : goodB 6 src dst (str (refTcpRes src dst sp dp seq ack fl wi data)) = true :=
  good_of 6 src dst ((be 2 sp ++ be 2 dp) ++ (be 4 seq ++ be 4 ack ++ be 2 (20480 + fl) ++ be 2 wi)) ([0, 0] ++ data.data.toList) (by simp [be_length]) _ rfl
theorem udp_good (src dst sp dp : Nat) (data : ByteArray) : goodB 17 src dst (str (refUdpRes src dst sp dp data)) = true :=
  good_of 17 src dst ((be 2 sp ++ be 2 dp) ++ (be 2 (8 + data.size))) (data.data.toList) (by simp [be_length]) _ rfl
theorem tcp_len (src dst sp dp seq ack fl wi : Nat) (data : ByteArray) : (refTcpRes src dst sp dp seq ack fl wi data).length = 20 + data.size := by
  unfold refTcpRes
  simp only [List.length_append, be_length, toList_size, List.length_cons, List.length_nil]; omega
theorem udp_len (src dst sp dp : Nat) (data : ByteArray) : (refUdpRes src dst sp dp data).length = 8 + data.size := by
  unfold refUdpRes
  simp only [List.length_append, be_length, toList_size]

theorem tcp_bent (src dst : Nat) (l : List UInt8) (k : Nat) (h : k < 8 * l.length) (h20 : 20 ≤ l.length) (hg : goodB 6 src dst (str l) = true) : BentOk 6 src dst l k := by
  refine .inl ?_
  unfold parseCode tcpCode
  rw [if_pos rfl, flip_bad _ _ _ _ _ h hg, str_size, flip_length]
  rw [if_neg (by omega)]
  split
  · decide
  · split
    · decide
    · decide

theorem num_two (a b : UInt8) : num [a, b] = a.toNat * 256 + b.toNat := by simp [num]

theorem udpCode_zero (b : ByteArray) (h : udpCode b false = 0) : rnum (tl b 6) 2 = 0 := by
  unfold udpCode at h
  generalize rnum (tl b 6) 2 = n at *
  generalize rnum (tl b 4) 2 = z at *
  generalize b.size = s at *
  by_cases hn : n = 0
  · exact hn
  · exfalso
    rw [if_neg hn] at h
    by_cases h1 : s < 8
    · rw [if_pos h1] at h; exact absurd h (by decide)
    · rw [if_neg h1] at h
      by_cases h2 : z < 8
      · rw [if_pos h2] at h; exact absurd h (by decide)
      · rw [if_neg h2] at h
        by_cases h3 : s < z
        · rw [if_pos h3] at h; exact absurd h (by decide)
        · rw [if_neg h3] at h
          by_cases h4 : z < s
          · rw [if_pos h4] at h; exact absurd h (by decide)
          · rw [if_neg h4] at h; exact absurd h (by decide)

theorem udp_bent (src dst : Nat) (l : List UInt8) (k : Nat) (h : k < 8 * l.length) (h8 : 8 ≤ l.length) (hg : goodB 17 src dst (str l) = true) : BentOk 17 src dst l k := by
  by_cases hc : parseCode 17 src dst (str (flip l k)) = 0
  · refine .inr ⟨rfl, ?_⟩
    have hlen := flip_length l k
    unfold parseCode at hc
    rw [if_neg (by decide), if_pos rfl, flip_bad _ _ _ _ _ h hg] at hc
    have hn := udpCode_zero _ hc
    generalize flip l k = f at *
    rw [tl_str, rnum_str] at hn
    have h67 : (f.drop 6).take 2 = [f.getD 6 0, f.getD 7 0] := by
      have l6 : 6 < f.length := by omega
      have l7 : 7 < f.length := by omega
      rw [List.drop_eq_getElem_cons l6, List.drop_eq_getElem_cons l7]
      simp only [List.take_succ_cons, List.take_zero, List.getD_eq_getElem?_getD, List.getElem?_eq_getElem l6, List.getElem?_eq_getElem l7, Option.getD_some]
    rw [h67, num_two] at hn
    refine ⟨UInt8.toNat_inj.1 (by show _ = 0; omega), UInt8.toNat_inj.1 (by show _ = 0; omega)⟩
  · exact .inl hc

theorem sbent_any (udp : Bool) (src dst : Nat) (s : Seg) (k : Nat) (w : World) (hk : k < 65536) (hsrc : src < 4294967296) (hdst : dst < 4294967296) (hq : 0 ≤ s.seq) (hq2 : s.seq < 4294967296) (ha : 0 ≤ s.ack) (ha2 : s.ack < 4294967296) :
    Calls Try.prog 4 #[.bool udp, .int .u32 src, .int .u32 dst, .agg s.cells, .int .u16 k] w (TruePost w) := by
  by_cases hz : 1000 < s.data.size
  · cases udp
    · exact sbent_skip_false src dst s k w hz
    · exact sbent_skip_true src dst s k w hz
  · obtain ⟨sport, dport, seq, ack, flags, window, data⟩ := s
    simp only at *
    cases udp
    · by_cases hr : segRight 6 ⟨sport, dport, seq, ack, flags, window, data⟩
      · obtain ⟨⟨a1, a2⟩, ⟨b1, b2⟩, hp⟩ := hr
        simp only at *
        obtain ⟨sp, rfl⟩ := Int.eq_ofNat_of_zero_le a1
        obtain ⟨dp, rfl⟩ := Int.eq_ofNat_of_zero_le b1
        obtain ⟨sq, rfl⟩ := Int.eq_ofNat_of_zero_le hq
        obtain ⟨ak, rfl⟩ := Int.eq_ofNat_of_zero_le ha
        rcases hp with ⟨_, ⟨c1, c2⟩, ⟨e1, e2⟩, hd⟩ | ⟨h17, _⟩
        · obtain ⟨fl, rfl⟩ := Int.eq_ofNat_of_zero_le c1
          obtain ⟨wi, rfl⟩ := Int.eq_ofNat_of_zero_le e1
          have hl := tcp_len src dst sp dp sq ak fl wi data
          exact sbent_yes_false src dst _ _ _ _ _ _ data k w hk (by omega) hsrc hdst (refTcpRes src dst sp dp sq ak fl wi data)
            (fun w => encode_tcp_str sp dp sq ak fl wi data src dst w (by omega) (by omega) hd (by omega) (by omega) (by omega) (by omega) hsrc hdst) (by omega) (by omega)
            (tcp_bent _ _ _ _ (Nat.mod_lt _ (by omega)) (by omega) (tcp_good ..))
        · exact absurd h17 (by decide)
      · exact sbent_no_false src dst _ _ _ _ _ _ data k w (by omega) hr
    · by_cases hr : segRight 17 ⟨sport, dport, 0, 0, 0, 0, data⟩
      · obtain ⟨⟨a1, a2⟩, ⟨b1, b2⟩, hp⟩ := hr
        simp only at *
        obtain ⟨sp, rfl⟩ := Int.eq_ofNat_of_zero_le a1
        obtain ⟨dp, rfl⟩ := Int.eq_ofNat_of_zero_le b1
        have hd : data.size ≤ 65507 := by omega
        have hl := udp_len src dst sp dp data
        refine sbent_yes_true src dst _ _ _ _ _ _ data k w hk (by omega) hsrc hdst (refUdpRes src dst sp dp data) (fun w => ?_) (by omega) (by omega)
            (udp_bent _ _ _ _ (Nat.mod_lt _ (by omega)) (by omega) (udp_good ..))
        rw [← udp_same]
        exact encode_udp sp dp data src dst w (by omega) (by omega) hd hsrc hdst
      · exact sbent_no_true src dst _ _ _ _ _ _ data k w (by omega) hr

end Go.Proofs.Ytcmgfmpmapnckaa
