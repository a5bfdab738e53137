/- THE LAW SegmentBent: for every input it returns true, and each argument reads as it did; no condition. The row over its walk. -/
import Derived.Test.YtcmgfmpmapnckaaRows
import Derived.Test.YtcmgfmpmapnckaaPb
import Derived.Test.YtcmgfmpmapnckaaAgg
import Derived.WalkKit
import Derived.ProofKit
import Derived.OpenShut
import Derived.ShutString
import Derived.ChangeOld
import Derived.Below
import Derived.SizedLaws
import Derived.Carry
namespace Go.Proofs.Ytcmgfmpmapnckaa.segmentBent
open Go.ChangeShapes Go.WideShapes Go.ChangeAt Go.RowKit Go.Proofs.Ytcmgfmpmapnckaa
open Go.ChangeMaps (open_string shut_string)
set_option linter.unusedVariables false
theorem own : ownKnob Try.prog.godebug = none := by kernel_rfl
theorem laidOut : laidOutB Try.prog = true := by kernel_rfl
set_option maxRecDepth 100000 in
theorem lifted (os : Os) (started : os.Started) (H : Type) (enc : TypeId × Value → H) :
    ReturnsInHanded {} Try.checked os 4 .any (Rows.segmentBentSpec.pre6 enc Try.prog Try.f4 Rows.segmentBentRow.domain false) (Rows.segmentBentSpec.post enc Try.prog Try.f4 false true false false) := by
  refine returnsInHanded_of_change_sized (C := Try.checked) own started (by kernel_rfl) Try.func4
    (ChangeSpec.witness6 (enc := enc) (C := Try.checked) false ⟨#[], #[.bool false, .int .u32 0, .int .u32 0, .agg #[.int .i64 0, .int .i64 0, .int .u32 0, .int .u32 0, .int .i64 0, .int .i64 0, .string ByteArray.empty], .int .u16 0], []⟩ 8 (by kernel_rfl) (by kernel_rfl) (by kernel_rfl) (by kernel_rfl)) ?_
  intro W base args ds gs before hval0 hW hcnd hsz0 _
  have hsz : (DataW.weightsEach Try.prog (Try.f4.params.toList ++ Rows.segmentBentSpec.plain.varTypes Try.prog) (ds ++ gs)).all (· ≤ reachBytes) = true := hsz0
  have hval : ∀ (j : Nat) t v, Try.f4.params[j]? = some t → args[j]? = some v → Value.okWide Try.prog W .any base t v := hval0
  have hW' := hW
  obtain ⟨p, q, hA0, hV, rfl, hfz, hnd⟩ := hW
  have hA : DataW.TrodAll enc Try.prog W 0 (fun _ => true) true Try.f4.params.toList args.toList ds p := hA0
  rw [Try.params4] at hA hval hsz
  obtain ⟨v0, vs0, d0, ds0, p0, q0, hargs, rfl, rfl, h0, r0⟩ := trodAll_cons hA
  obtain ⟨v1, vs1, d1, ds1, p1, q1, rfl, rfl, rfl, h1, r1⟩ := trodAll_cons r0
  obtain ⟨v2, vs2, d2, ds2, p2, q2, rfl, rfl, rfl, h2, r2⟩ := trodAll_cons r1
  obtain ⟨v3, vs3, d3, ds3, p3, q3, rfl, rfl, rfl, h3, r3⟩ := trodAll_cons r2
  obtain ⟨v4, vs4, d4, ds4, p4, q4, rfl, rfl, rfl, h4, r4⟩ := trodAll_cons r3
  obtain ⟨rfl, rfl, rfl⟩ := trodAll_nil r4
  obtain rfl : args = #[v0, v1, v2, v3, v4] := by cases args; simp_all
  obtain ⟨rfl, rfl⟩ := trodVars_none hV
  have k0 := h0
  have lt0 : ∀ x ∈ p0, x.block < W.heap.size := by obtain ⟨m, hm⟩ := k0; exact DataW.trod_lt m _ _ _ hm
  obtain ⟨a0, rfl, rfl, rfl⟩ := open_bool Try.underlying4 (hval 0 4 v0 rfl rfl) h0
  have k1 := h1
  have lt1 : ∀ x ∈ p1, x.block < W.heap.size := by obtain ⟨m, hm⟩ := k1; exact DataW.trod_lt m _ _ _ hm
  obtain ⟨a1, rfl, rfl, rfl, w1⟩ := open_int Try.underlying22 (hval 1 22 v1 rfl rfl) h1
  have k2 := h2
  have lt2 : ∀ x ∈ p2, x.block < W.heap.size := by obtain ⟨m, hm⟩ := k2; exact DataW.trod_lt m _ _ _ hm
  obtain ⟨a2, rfl, rfl, rfl, w2⟩ := open_int Try.underlying22 (hval 2 22 v2 rfl rfl) h2
  have k3 := h3
  have lt3 : ∀ x ∈ p3, x.block < W.heap.size := by obtain ⟨m, hm⟩ := k3; exact DataW.trod_lt m _ _ _ hm
  obtain ⟨c0, c1, c2, c3, c4, c5, c6, y0, y1, y2, y3, y4, y5, y6, n, rfl, rfl, rfl, g0, g1, g2, g3, g4, g5, g6⟩ := open_agg7 Try.underlying24 (by kernel_rfl) (by kernel_rfl) (hval 3 24 v3 rfl rfl) h3
  obtain ⟨s0, hs0, hy0, ws0⟩ := DataW.trod_int (k := .i64) (t := 3) Try.underlying3 g0
  obtain rfl : c0 = .int .i64 s0 := by simpa using hs0
  obtain ⟨s1, hs1, hy1, ws1⟩ := DataW.trod_int (k := .i64) (t := 3) Try.underlying3 g1
  obtain rfl : c1 = .int .i64 s1 := by simpa using hs1
  obtain ⟨s2, hs2, hy2, ws2⟩ := DataW.trod_int (k := .u32) (t := 22) Try.underlying22 g2
  obtain rfl : c2 = .int .u32 s2 := by simpa using hs2
  obtain ⟨s3, hs3, hy3, ws3⟩ := DataW.trod_int (k := .u32) (t := 22) Try.underlying22 g3
  obtain rfl : c3 = .int .u32 s3 := by simpa using hs3
  obtain ⟨s4, hs4, hy4, ws4⟩ := DataW.trod_int (k := .i64) (t := 3) Try.underlying3 g4
  obtain rfl : c4 = .int .i64 s4 := by simpa using hs4
  obtain ⟨s5, hs5, hy5, ws5⟩ := DataW.trod_int (k := .i64) (t := 3) Try.underlying3 g5
  obtain rfl : c5 = .int .i64 s5 := by simpa using hs5
  obtain ⟨s6, hs6, hy6, ws6⟩ := DataW.trod_string (t := 9) Try.underlying9 g6
  obtain rfl : c6 = .string s6 := by simpa using hs6
  have k4 := h4
  have lt4 : ∀ x ∈ p4, x.block < W.heap.size := by obtain ⟨m, hm⟩ := k4; exact DataW.trod_lt m _ _ _ hm
  obtain ⟨a4, rfl, rfl, rfl, w4⟩ := open_int Try.underlying34 (hval 4 34 v4 rfl rfl) h4
  clear hA0 hval0 hsz0 hsz
  have b1 : 0 ≤ a1 ∧ a1 < 4294967296 := by have hh := w1; simp [Lit.wf, IntKind.min, IntKind.max, IntKind.signed, IntKind.bits] at hh; omega
  have b2 : 0 ≤ a2 ∧ a2 < 4294967296 := by have hh := w2; simp [Lit.wf, IntKind.min, IntKind.max, IntKind.signed, IntKind.bits] at hh; omega
  have q2 : 0 ≤ s2 ∧ s2 < 4294967296 := by have hh := ws2; simp [Lit.wf, IntKind.min, IntKind.max, IntKind.signed, IntKind.bits] at hh; omega
  have q3 : 0 ≤ s3 ∧ s3 < 4294967296 := by have hh := ws3; simp [Lit.wf, IntKind.min, IntKind.max, IntKind.signed, IntKind.bits] at hh; omega
  have b4 : 0 ≤ a4 ∧ a4 < 65536 := by have hh := w4; simp [Lit.wf, IntKind.min, IntKind.max, IntKind.signed, IntKind.bits] at hh; omega
  obtain ⟨src, rfl⟩ := Int.eq_ofNat_of_zero_le b1.1
  obtain ⟨dst, rfl⟩ := Int.eq_ofNat_of_zero_le b2.1
  obtain ⟨kk, rfl⟩ := Int.eq_ofNat_of_zero_le b4.1
  refine (sbent_any a0 src dst ⟨s0, s1, s2, s3, s4, s5, s6⟩ kk W (by omega) (by omega) (by omega) q2.1 q2.2 q3.1 q3.2).mono fun e W' ⟨he, bel⟩ => ?_
  subst he
  exact ⟨_, rfl, _, _, _, [], _, [], hW', trodAll_mk1 (shut_bool Try.underlying4 _), (trodAll_cons_mk (Below.trod laidOut (by kernel_rfl) (of_decide_eq_true (by kernel_rfl)) k0 bel lt0) (trodAll_cons_mk (Below.trod laidOut (by kernel_rfl) (of_decide_eq_true (by kernel_rfl)) k1 bel lt1) (trodAll_cons_mk (Below.trod laidOut (by kernel_rfl) (of_decide_eq_true (by kernel_rfl)) k2 bel lt2) (trodAll_cons_mk (Below.trod laidOut (by kernel_rfl) (of_decide_eq_true (by kernel_rfl)) k3 bel lt3) (trodAll_cons_mk (Below.trod laidOut (by kernel_rfl) (of_decide_eq_true (by kernel_rfl)) k4 bel lt4) trodAll_mk0))))), rfl, bel.frame _, fun h => by cases h⟩
theorem over : Rows.segmentBentRow.holds Try.pinned (OpenSpec.ofChange Rows.segmentBentSpec) :=
  OpenClaim.holds_of_wide 4 Try.f4 rfl rfl rfl rfl rfl rfl rfl ⟨rfl, rfl, rfl, rfl, rfl⟩ rfl rfl rfl rfl rfl (by kernel_rfl) Try.func4 (by kernel_rfl)
    (of_decide_eq_true (by kernel_rfl)) (by unfold Func.isWrapper; first | (rw [if_pos (by decide +kernel)]; kernel_rfl) | (rw [if_neg (by decide +kernel)]; exact ⟨rfl, rfl⟩))
    (fun os started H enc _ => lifted os started H enc)
theorem proved : Rows.SegmentBentSaid := over
end Go.Proofs.Ytcmgfmpmapnckaa.segmentBent
namespace Go.Proofs.Ytcmgfmpmapnckaa
/-- The row, under a short name, for the claim. -/
theorem segmentBent_holds : Rows.SegmentBentSaid := segmentBent.proved
#print axioms segmentBent_holds
end Go.Proofs.Ytcmgfmpmapnckaa
