/- The walk of layer 6's 'awake'. -/
import Derived.Test.YtcmgfmpmapnckaaSgT
namespace Go.Proofs.Ytcmgfmpmapnckaa
open Go.RowKit
set_option linter.unusedVariables false
set_option linter.unusedSimpArgs false

theorem withSum_length (src dst : Nat) (proto : Int) (bb : ByteArray) (at0 : Nat) (h : at0 + 2 ≤ bb.size) : (withSum src dst proto bb at0).length = bb.size := by
  unfold withSum
  simp only [List.length_append, beAll_length, toList_size, hd_size _ _ (show at0 ≤ bb.size by omega), tl_size, List.length_singleton]
  omega

theorem size_of_list (l : List UInt8) : (⟨l.toArray⟩ : ByteArray).size = l.length := by
  show l.toArray.size = _; simp

/-- A call that answers true and makes what it makes above what was there. -/
def TruePost (w : World) (e : Ending) (w' : World) : Prop := e = .returned (.bool true) ∧ Below w.heap.size w w'

set_option maxHeartbeats 2000000 in
set_option maxRecDepth 100000 in
theorem awake6 (w : World) : Calls Try.prog 10 #[] w (TruePost w) := by
  have h1 := fun w => encode_tcp 0 0 0 0 2 0 ⟨#[]⟩ 1 2 w (by decide) (by decide) (by decide) (by decide) (by decide) (by decide) (by decide) (by decide) (by decide)
  have h2 := fun w => encode_udp 0 0 ⟨#[97, 98]⟩ 1 2 w (by decide) (by decide) (by decide) (by decide) (by decide)
  have l1 : (⟨(withSum 1 2 6 (tcpBytes 0 0 0 0 2 0 ⟨#[]⟩) 16).toArray⟩ : ByteArray).size = 20 := by
    rw [size_of_list, withSum_length _ _ _ _ _ (by rw [tcpBytes_size]; decide), tcpBytes_size]; rfl
  have l2 : (⟨(withSum 1 2 17 (udpBytes 0 0 ⟨#[97, 98]⟩) 6).toArray⟩ : ByteArray).size = 10 := by
    rw [size_of_list, withSum_length _ _ _ _ _ (by rw [udpBytes_size]; decide), udpBytes_size]; rfl
  simp only [show ((0 : Nat) : Int) = 0 from rfl, show ((1 : Nat) : Int) = 1 from rfl, show ((2 : Nat) : Int) = 2 from rfl] at h1 h2
  generalize (⟨(withSum 1 2 6 (tcpBytes 0 0 0 0 2 0 ⟨#[]⟩) 16).toArray⟩ : ByteArray) = s1 at *
  generalize (⟨(withSum 1 2 17 (udpBytes 0 0 ⟨#[97, 98]⟩) 6).toArray⟩ : ByteArray) = s2 at *
  have H1 := Lib.hid h1; clear h1
  have H2 := Lib.hid h2; clear h2
  go_enter Try.func10, Try.ntmps10
  go_wp2_with (fail)
  refine (H1.out _).mono ?_
  rintro e w1 ⟨rfl, hf1⟩
  go_wp2_with (fail)
  refine (H2.out _).mono ?_
  rintro e w2 ⟨rfl, hf2⟩
  have hbel : Below w.heap.size w w2 := hf1.trans (hf2.mono hf1.size)
  clear hf1 hf2
  go_wp2
  go_ret
  exact ⟨rfl, hbel⟩

end Go.Proofs.Ytcmgfmpmapnckaa
