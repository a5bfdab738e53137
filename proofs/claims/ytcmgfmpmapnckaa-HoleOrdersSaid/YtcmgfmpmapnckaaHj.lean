/- Bytes that came in, out of their reading. -/
import Derived.Test.YtcmgfmpmapnckaaHi
import Derived.Deep.Slices
import Derived.ChangeSame
namespace Go.Proofs.Ytcmgfmpmapnckaa
open Go.ChangeShapes Go.WideShapes Go.RowKit Go.Deep
set_option linter.unusedVariables false
set_option linter.unusedSimpArgs false
section
variable {H : Type} {enc : TypeId × Value → H} {w : World} {base : Nat} {spare : Nat → Bool} {held : Bool}
theorem cells5' : Try.prog.cellsOf 5 = 1 := by kernel_rfl
set_option maxRecDepth 100000 in
theorem open_u8s {r : Reach} {b0 : Nat} {v : Value} {d : DataW H} {p : List MemPlace} (hv : Value.okWide Try.prog w r b0 35 v) (h : DataW.Trod enc Try.prog w base spare held 35 v d p) :
    ∃ (A : Option Addr) (n cap : Nat) (F : Nat → Nat), v = .slice A n cap ∧ n ≤ maxLen ∧ ArgB w A n F := by
  obtain ⟨A, n, cap, rfl⟩ := okWide_slice Try.underlying35 hv
  obtain ⟨fuel, hf⟩ := h
  rcases open_slice Try.underlying35 hf with ⟨hc, _⟩ | ⟨a, len, cap', m, fuel', D, Pl, hc, _, hl, hm, hmm, _, hi⟩
  · have hc' : Value.slice A n cap = .slice none 0 0 := by simpa [Value.cells] using hc
    injection hc' with _ hn _
    subst hn
    exact ⟨A, 0, cap, fun _ => default, rfl, Nat.zero_le _, fun i hi => absurd hi (Nat.not_lt_zero _)⟩
  · have hc' : Value.slice A n cap = .slice (some a) len cap' := by simpa [Value.cells] using hc
    injection hc' with hA hn hcap
    subst hA; subst hn; subst hcap
    have hnm : n ≤ m := by rw [hmm]; split <;> omega
    have hall : ∀ i, i < n → ∃ f : Nat, w.cell? (a.add i) = some (.int .u8 (f : Int)) ∧ f < 256 := by
      intro i hin
      obtain ⟨cs, hcs, ht⟩ := hi i (by omega)
      rw [cells5', Nat.mul_one] at hcs
      obtain ⟨_, hcl, hat⟩ := World.cells?_some hcs
      obtain ⟨f, hf0, _, hwf⟩ := DataW.trod_int Try.underlying5 ht
      subst hf0
      have hb : 0 ≤ f ∧ f < 256 := by
        simp [Lit.wf, IntKind.min, IntKind.max, IntKind.signed, IntKind.bits] at hwf; omega
      obtain ⟨fn, rfl⟩ := Int.eq_ofNat_of_zero_le hb.1
      refine ⟨fn, ?_, by omega⟩
      have := hat 0 (by omega)
      simpa [Addr.add] using this
    have hD : ∃ F : Nat → Nat, ∀ i, i < n → w.cell? (a.add i) = some (.int .u8 ((F i : Nat) : Int)) ∧ F i < 256 := choose_lt hall
    obtain ⟨F, hF⟩ := hD
    refine ⟨some a, n, cap, F, rfl, by omega, fun i hin => ⟨a, rfl, ?_, hF i hin⟩⟩
    have := World.block_lt_of_cell? w _ (hF i hin).1
    rwa [add_block] at this
end
end Go.Proofs.Ytcmgfmpmapnckaa
