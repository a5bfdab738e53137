/- Lines that came in, out of their reading. -/
import Derived.Test.YtcmgfmpmapnckaaAh
import Derived.Deep.Slices
import Derived.Deep.Strs
import Derived.Deep.Fields
import Derived.ChangeSame
namespace Go.Proofs.Ytcmgfmpmapnckaa
open Go.ChangeShapes Go.WideShapes Go.RowKit Go.Deep
set_option linter.unusedVariables false
set_option linter.unusedSimpArgs false
section
variable {H : Type} {enc : TypeId × Value → H} {w : World} {base : Nat} {spare : Nat → Bool} {held : Bool}
theorem cells50L : Try.prog.cellsOf 50 = 7 := by kernel_rfl
theorem cells48L : Try.prog.cellsOf 48 = 5 := by kernel_rfl
theorem cells46L : Try.prog.cellsOf 46 = 1 := by kernel_rfl
theorem cells22L : Try.prog.cellsOf 22 = 1 := by kernel_rfl
theorem cells3L : Try.prog.cellsOf 3 = 1 := by kernel_rfl
theorem add_blockL (a : Addr) (n : Nat) : (a.add n).block = a.block := by unfold Addr.add; split <;> rfl

theorem trod_struct5 {P : Program} {t : TypeId} {f0 f1 f2 f3 f4 : Field} {fuel : Nat} {cs : List Value} {x : DataW H × List MemPlace} (ht : P.underlying t = some (.struct #[f0, f1, f2, f3, f4])) (h : DataW.trod enc P w base spare held fuel t cs = some x) :
    ∃ y0 y1 y2 y3 y4 n, cs.length = P.cellsOf t ∧ DataW.trod enc P w base spare held n f0.type ((cs.drop f0.offset).take (P.cellsOf f0.type)) = some y0 ∧
      DataW.trod enc P w base spare held n f1.type ((cs.drop f1.offset).take (P.cellsOf f1.type)) = some y1 ∧ DataW.trod enc P w base spare held n f2.type ((cs.drop f2.offset).take (P.cellsOf f2.type)) = some y2 ∧
      DataW.trod enc P w base spare held n f3.type ((cs.drop f3.offset).take (P.cellsOf f3.type)) = some y3 ∧ DataW.trod enc P w base spare held n f4.type ((cs.drop f4.offset).take (P.cellsOf f4.type)) = some y4 := by
  obtain ⟨xs, n, _, rfl, hl, hlen, hf⟩ := DataW.trod_struct ht h
  match xs, hlen with
  | [y0, y1, y2, y3, y4], _ => exact ⟨y0, y1, y2, y3, y4, n, hl, by simpa using hf 0 f0 rfl, by simpa using hf 1 f1 rfl, by simpa using hf 2 f2 rfl, by simpa using hf 3 f3 rfl, by simpa using hf 4 f4 rfl⟩

set_option maxRecDepth 100000 in
theorem open_lines {r : Reach} {b0 : Nat} {v : Value} {d : DataW H} {p : List MemPlace} (hv : Value.okWide Try.prog w r b0 44 v) (h : DataW.Trod enc Try.prog w base spare held 44 v d p) :
    ∃ (A : Option Addr) (n cap : Nat) (D : Nat → Ln), v = .slice A n cap ∧ n ≤ maxLen ∧ ArgL w A n D := by
  obtain ⟨A, n, cap, rfl⟩ := okWide_slice Try.underlying44 hv
  obtain ⟨fuel, hf⟩ := h
  rcases open_slice Try.underlying44 hf with ⟨hc, _⟩ | ⟨a, len, cap', m, fuel', D, Pl, hc, _, hl, hm, hmm, _, hi⟩
  · have hc' : Value.slice A n cap = .slice none 0 0 := by simpa [Value.cells] using hc
    injection hc' with _ hn _
    subst hn
    exact ⟨A, 0, cap, fun _ => default, rfl, Nat.zero_le _, fun i hi => absurd hi (Nat.not_lt_zero _)⟩
  · have hc' : Value.slice A n cap = .slice (some a) len cap' := by simpa [Value.cells] using hc
    injection hc' with hA hn hcap
    subst hA; subst hn; subst hcap
    have hnm : n ≤ m := by rw [hmm]; split <;> omega
    have hall : ∀ i, i < n → ∃ p : Ln, LineAt w (a.add (i * 7)) p ∧ p.key.Ok := by
      intro i hin
      obtain ⟨cs, hcs, ht⟩ := hi i (by omega)
      rw [cells50L] at hcs
      obtain ⟨_, hcl, hat⟩ := World.cells?_some hcs
      match cs, hcl with
      | [c0, c1, c2, c3, c4, c5, c6], _ =>
        obtain ⟨y0, y1, y2, n', _, _, t0, t1, t2⟩ := trod_struct3 Try.underlying50 ht
        simp only [cells3L, cells46L, cells48L, List.drop, List.take] at t0 t1 t2
        obtain ⟨z0, z1, z2, z3, z4, n'', _, s0, s1, s2, s3, s4⟩ := trod_struct5 Try.underlying48 t2
        simp only [cells3L, cells22L, List.drop, List.take] at s0 s1 s2 s3 s4
        obtain ⟨f0, h0, _, _⟩ := DataW.trod_int Try.underlying3 t0
        obtain ⟨f1, h1, _, _⟩ := DataW.trod_int Try.underlying46 t1
        obtain ⟨f2, h2, _, w2⟩ := DataW.trod_int Try.underlying22 s0
        obtain ⟨f3, h3, _, w3⟩ := DataW.trod_int Try.underlying22 s1
        obtain ⟨f4, h4, _, w4⟩ := DataW.trod_int Try.underlying3 s2
        obtain ⟨f5, h5, _, w5⟩ := DataW.trod_int Try.underlying3 s3
        obtain ⟨f6, h6, _, w6⟩ := DataW.trod_int Try.underlying3 s4
        simp only [List.cons.injEq, and_true] at h0 h1 h2 h3 h4 h5 h6
        subst h0; subst h1; subst h2; subst h3; subst h4; subst h5; subst h6
        refine ⟨⟨f0, f1, ⟨f2, f3, f4, f5, f6⟩⟩, ⟨?_, hat 1 (by omega), hat 2 (by omega), hat 3 (by omega), hat 4 (by omega), hat 5 (by omega), hat 6 (by omega)⟩, ⟨w2, w3, w4, w5, w6⟩⟩
        have := hat 0 (by omega); simpa [Addr.add] using this
    have hD : ∃ D : Nat → Ln, ∀ i, i < n → LineAt w (a.add (i * 7)) (D i) ∧ (D i).key.Ok := choose_lt hall
    obtain ⟨D, hD⟩ := hD
    refine ⟨some a, n, cap, D, rfl, by omega, fun i hin => ⟨a, rfl, ?_, (hD i hin).1, (hD i hin).2⟩⟩
    exact World.block_lt_of_cell? w _ (hD i hin).1.1
end
end Go.Proofs.Ytcmgfmpmapnckaa
