/- Pieces that came in, out of their reading. -/
import Derived.Test.YtcmgfmpmapnckaaHg
import Derived.Deep.Slices
import Derived.Deep.Strs
import Derived.Deep.Fields
import Derived.ChangeSame
namespace Go.Proofs.Ytcmgfmpmapnckaa
open Go.ChangeShapes Go.WideShapes Go.RowKit Go.Deep
set_option linter.unusedVariables false
set_option linter.unusedSimpArgs false
section
variable {H : Type} {enc : TypeId × Value → H} {w : World} {base : Nat} {spare : Nat → Bool} {held : Bool}
theorem cells77 : Try.prog.cellsOf 77 = 3 := by kernel_rfl
theorem cells3' : Try.prog.cellsOf 3 = 1 := by kernel_rfl
theorem cells4' : Try.prog.cellsOf 4 = 1 := by kernel_rfl
theorem cells9' : Try.prog.cellsOf 9 = 1 := by kernel_rfl

set_option maxRecDepth 100000 in
theorem open_pieces {r : Reach} {b0 : Nat} {v : Value} {d : DataW H} {p : List MemPlace} (hv : Value.okWide Try.prog w r b0 75 v) (h : DataW.Trod enc Try.prog w base spare held 75 v d p) :
    ∃ (A : Option Addr) (n cap : Nat) (D : Nat → Pc), v = .slice A n cap ∧ n ≤ maxLen ∧ ArgP w A n D := by
  obtain ⟨A, n, cap, rfl⟩ := okWide_slice Try.underlying75 hv
  obtain ⟨fuel, hf⟩ := h
  rcases open_slice Try.underlying75 hf with ⟨hc, _⟩ | ⟨a, len, cap', m, fuel', D, Pl, hc, _, hl, hm, hmm, _, hi⟩
  · have hc' : Value.slice A n cap = .slice none 0 0 := by simpa [Value.cells] using hc
    injection hc' with _ hn _
    subst hn
    exact ⟨A, 0, cap, fun _ => default, rfl, Nat.zero_le _, fun i hi => absurd hi (Nat.not_lt_zero _)⟩
  · have hc' : Value.slice A n cap = .slice (some a) len cap' := by simpa [Value.cells] using hc
    injection hc' with hA hn hcap
    subst hA; subst hn; subst hcap
    have hnm : n ≤ m := by rw [hmm]; split <;> omega
    have hall : ∀ i, i < n → ∃ p : Pc, w.cell? (a.add (i * 3)) = some (.int .i64 p.frm) ∧ w.cell? ⟨(a.add (i * 3)).block, (a.add (i * 3)).off + 1, none⟩ = some (.string p.data) ∧ w.cell? ⟨(a.add (i * 3)).block, (a.add (i * 3)).off + 2, none⟩ = some (.bool p.more) := by
      intro i hin
      obtain ⟨cs, hcs, ht⟩ := hi i (by omega)
      rw [cells77] at hcs
      obtain ⟨_, hcl, hat⟩ := World.cells?_some hcs
      match cs, hcl with
      | [c0, c1, c2], _ =>
        obtain ⟨y0, y1, y2, n', _, _, t0, t1, t2⟩ := trod_struct3 Try.underlying77 ht
        simp only [cells3', cells4', cells9', List.drop, List.take] at t0 t1 t2
        obtain ⟨f, hf0, _, _⟩ := DataW.trod_int Try.underlying3 t0
        obtain ⟨s, hs0, _, _⟩ := DataW.trod_string Try.underlying9 t1
        obtain ⟨b, hb0, _⟩ := DataW.trod_bool Try.underlying4 t2
        simp only [List.cons.injEq, and_true] at hf0 hs0 hb0
        subst hf0; subst hs0; subst hb0
        refine ⟨⟨f, s, b⟩, ?_, ?_, ?_⟩
        · have := hat 0 (by omega); simpa [Addr.add] using this
        · exact hat 1 (by omega)
        · exact hat 2 (by omega)
    have hD : ∃ D : Nat → Pc, ∀ i, i < n → w.cell? (a.add (i * 3)) = some (.int .i64 (D i).frm) ∧ w.cell? ⟨(a.add (i * 3)).block, (a.add (i * 3)).off + 1, none⟩ = some (.string (D i).data) ∧ w.cell? ⟨(a.add (i * 3)).block, (a.add (i * 3)).off + 2, none⟩ = some (.bool (D i).more) := choose_lt hall
    obtain ⟨D, hD⟩ := hD
    refine ⟨some a, n, cap, D, rfl, by omega, fun i hin => ⟨a, rfl, ?_, hD i hin⟩⟩
    have := World.block_lt_of_cell? w _ (hD i hin).1
    rwa [add_block] at this
end
end Go.Proofs.Ytcmgfmpmapnckaa
