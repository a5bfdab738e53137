/- Plain laws of check sums: what both sums are, and what a segment's bytes come to. -/
import Derived.Test.YtcmgfmpmapnckaaSgH
import Derived.Test.YtcmgfmpmapnckaaSgW
namespace Go.Proofs.Ytcmgfmpmapnckaa
open Go.RowKit
set_option linter.unusedVariables false
set_option linter.unusedSimpArgs false

/-- What a byte weighs: at an even place 256 times. -/
def wt (e : Bool) (c : UInt8) : Nat := if e then c.toNat * 256 else c.toNat
def W : Bool → List UInt8 → Nat
  | _, [] => 0
  | e, c :: l => wt e c + W (!e) l

theorem W_append (e : Bool) (a b : List UInt8) : W e (a ++ b) = W e a + W (if a.length % 2 = 0 then e else !e) b := by
  induction a generalizing e with
  | nil => simp [W]
  | cons c a ih =>
    simp only [List.cons_append, W, ih, List.length_cons, Nat.add_assoc]
    congr 2
    by_cases h : a.length % 2 = 0
    · rw [if_pos h, if_neg (by omega)]
    · rw [if_neg h, if_pos (by omega), Bool.not_not]

theorem wt_le (e : Bool) (c : UInt8) : wt e c ≤ 65280 := by
  have := c.toNat_lt
  unfold wt; split <;> omega

/-- A sum with its carries brought round. -/
def norm (t : Nat) : Nat := if t = 0 then 0 else (t - 1) % 65535 + 1
theorem norm_le (t : Nat) : norm t ≤ 65535 := by unfold norm; split <;> omega
theorem norm_add (t u : Nat) : norm (norm t + u) = norm (t + u) := by unfold norm; split <;> split <;> split <;> omega
theorem norm_small (t : Nat) (h : t ≤ 65535) : norm t = t := by unfold norm; split <;> omega
theorem fold1_norm (t : Nat) (h : t ≤ 131070) : fold1 t = norm t := by unfold fold1 norm; split <;> split <;> omega
theorem norm_zero (t : Nat) : norm t = 0 ↔ t = 0 := by unfold norm; split <;> omega

theorem putL8_W (l : List UInt8) : ∀ (x : Nat × Bool), x.1 ≤ 65535 → (putL8 x l).1 = norm (x.1 + W x.2 l) := by
  induction l with
  | nil => intro x h; simp [putL8, W, norm_small _ h]
  | cons c l ih =>
    intro x h
    have h1 : putL8 x (c :: l) = putL8 (putB x c) l := rfl
    rw [h1, ih _ (putB_le x c h)]
    have h2 : (putB x c).1 = norm (x.1 + wt x.2 c) := fold1_norm _ (by have := wt_le x.2 c; unfold wt at this; omega)
    have h3 : (putB x c).2 = !x.2 := rfl
    rw [h2, h3, norm_add]
    simp only [W, Nat.add_assoc]

theorem ofSum_W (l : List UInt8) : ofSum l = 65535 - norm (W true l) := by
  unfold ofSum
  rw [putL8_W l (0, true) (Nat.zero_le _)]
  simp

theorem refL_W (l : List UInt8) : ∀ (x : Nat × Bool × Bool), x.1 < 65535 → (l.foldl refB x).1 = (x.1 + W x.2.2 l) % 65535 ∧ (l.foldl refB x).2.1 = (x.2.1 || decide (0 < W x.2.2 l)) := by
  induction l with
  | nil => intro x h; simp [W, Nat.mod_eq_of_lt h]
  | cons c l ih =>
    intro x h
    obtain ⟨h1, h2⟩ := ih (refB x c) (Nat.mod_lt _ (by decide))
    have e1 : (refB x c).1 = (x.1 + wt x.2.2 c) % 65535 := rfl
    have e2 : (refB x c).2.1 = (x.2.1 || decide (0 < c.toNat)) := rfl
    have e3 : (refB x c).2.2 = !x.2.2 := rfl
    rw [List.foldl_cons, h1, h2, e1, e2, e3]
    refine ⟨?_, ?_⟩
    · simp only [W]; omega
    · simp only [W]
      have : (0 < wt x.2.2 c + W (!x.2.2) l) ↔ (0 < c.toNat ∨ 0 < W (!x.2.2) l) := by
        unfold wt; split <;> omega
      rw [Bool.or_assoc]
      congr 1
      rw [Bool.eq_iff_iff]
      simp [this]

theorem refSum_W (l : List UInt8) : refSum l = norm (W true l) := by
  obtain ⟨h1, h2⟩ := refL_W l (0, false, true) (by decide)
  simp only [Nat.zero_add, Bool.false_or] at h1 h2
  unfold refSum refL
  rw [h1, h2]
  unfold norm
  generalize W true l = t
  simp only [decide_eq_true_eq]
  split <;> split <;> omega

/-- Both check sums are the same. -/
theorem sums_same (l : List UInt8) : 65535 - refSum l = ofSum l := by rw [refSum_W, ofSum_W]

theorem W_be2 (n : Nat) (h : n ≤ 65535) : W true (be 2 n) = n := by
  simp only [be, W, wt, UInt8.toNat_ofNat', Bool.not_true, if_true, Bool.false_eq_true, if_false, Nat.mul_one, Nat.mul_zero, Nat.pow_zero, Nat.div_one]
  omega

theorem hd_append (a b : List UInt8) (n : Nat) (h : a.length = n) : (hd (str (a ++ b)) n).data.toList = a := by
  subst h
  simp [hd, str]
theorem tl_append (a b : List UInt8) (n : Nat) (h : a.length = n) : (tl (str (a ++ b)) n).data.toList = b := by
  subst h
  unfold tl
  rw [str_size]
  simp [str]

theorem beAll_cons (k n : Nat) (l : List Nat) : beAll k (n :: l) = be k n ++ beAll k l := by simp [beAll]
theorem beAll_nil (k : Nat) : beAll k [] = [] := rfl
theorem be2_zero : be 2 0 = [0, 0] := by decide

/-- TCP's bytes are the reference's. -/
theorem tcp_same (src dst sp dp seq ack fl wi : Nat) (data : ByteArray) : withSum src dst 6 (tcpBytes sp dp seq ack fl wi data) 16 = refTcpRes src dst sp dp seq ack fl wi data := by
  have e0 : tcpBytes sp dp seq ack fl wi data = str ((be 2 sp ++ be 2 dp ++ (be 4 seq ++ be 4 ack ++ be 2 (20480 + fl) ++ be 2 wi)) ++ ([0, 0] ++ ([0, 0] ++ data.data.toList))) := by
    unfold tcpBytes str
    simp only [beAll_cons, beAll_nil, be2_zero, List.append_nil, List.append_assoc]
  have l1 : (be 2 sp ++ be 2 dp ++ (be 4 seq ++ be 4 ack ++ be 2 (20480 + fl) ++ be 2 wi)).length = 16 := by simp [be_length]
  have e1 := hd_append _ ([0, 0] ++ ([0, 0] ++ data.data.toList)) 16 l1
  have e2 : (tl (tcpBytes sp dp seq ack fl wi data) (16 + 2)).data.toList = [0, 0] ++ data.data.toList := by
    rw [e0, ← List.append_assoc]
    exact tl_append _ _ 18 (by rw [List.length_append, l1]; rfl)
  have e3 : (tcpBytes sp dp seq ack fl wi data).data.toList = (be 2 sp ++ be 2 dp) ++ (be 4 seq ++ be 4 ack ++ be 2 (20480 + fl) ++ be 2 wi) ++ [0, 0] ++ ([0, 0] ++ data.data.toList) := by
    rw [e0, str_toList]; simp only [List.append_assoc]
  have e4 : (tcpBytes sp dp seq ack fl wi data).size = ((be 2 sp ++ be 2 dp) ++ (be 4 seq ++ be 4 ack ++ be 2 (20480 + fl) ++ be 2 wi) ++ [0, 0] ++ ([0, 0] ++ data.data.toList)).length := by
    rw [← toList_size, e3]
  rw [← e0] at e1
  unfold withSum refTcpRes
  simp only
  rw [e1, e2]
  rw [e3, e4]
  simp only [refN, sums_same, beAll_cons, beAll_nil, List.append_nil, List.append_assoc]

theorem udp_same (src dst sp dp : Nat) (data : ByteArray) : withSum src dst 17 (udpBytes sp dp data) 6 = refUdpRes src dst sp dp data := by
  have e0 : udpBytes sp dp data = str ((be 2 sp ++ be 2 dp ++ be 2 (8 + data.size)) ++ ([0, 0] ++ data.data.toList)) := by
    unfold udpBytes str
    simp only [beAll_cons, beAll_nil, be2_zero, List.append_nil, List.append_assoc]
  have l1 : (be 2 sp ++ be 2 dp ++ be 2 (8 + data.size)).length = 6 := by simp [be_length]
  have e1 := hd_append _ ([0, 0] ++ data.data.toList) 6 l1
  have e2 : (tl (udpBytes sp dp data) (6 + 2)).data.toList = data.data.toList := by
    rw [e0, ← List.append_assoc]
    exact tl_append _ _ 8 (by rw [List.length_append, l1]; rfl)
  have e3 : (udpBytes sp dp data).data.toList = (be 2 sp ++ be 2 dp) ++ (be 2 (8 + data.size)) ++ [0, 0] ++ (data.data.toList) := by
    rw [e0, str_toList]; simp only [List.append_assoc]
  have e4 : (udpBytes sp dp data).size = ((be 2 sp ++ be 2 dp) ++ (be 2 (8 + data.size)) ++ [0, 0] ++ (data.data.toList)).length := by
    rw [← toList_size, e3]
  rw [← e0] at e1
  unfold withSum refUdpRes
  simp only
  rw [e1, e2]
  rw [e3, e4]
  simp only [refN, sums_same, beAll_cons, beAll_nil, List.append_nil, List.append_assoc]

end Go.Proofs.Ytcmgfmpmapnckaa
