/- Walks of package hole, part one: pieces, what is read of a body. -/
import Derived.Test.YtcmgfmpmapnckaaHtP
import Derived.Test.YtcmgfmpmapnckaaBd
import Derived.Shelf.SlicesQ.Contains
import Derived.Shelf.SlicesQ.IndexFunc
import Derived.Laws.StructEq
import Derived.Deep.RegionHeld3
import Derived.Deep.AppendLies
import Derived.Deep.DeepCutAuto
namespace Go.Proofs.Ytcmgfmpmapnckaa
open Go.Shelf Go.RowKit Go.Lib Go.Sort
set_option linter.unusedVariables false
set_option linter.unusedSimpArgs false

/-- A row of the call's own: cells of the elements d. -/
def RowAt {α : Type} (enc : α → List Value) (k : Nat) (T : TypeId) (B : Nat) (w : World) (v : Value) (d : Array α) : Prop := w.ownsRow B T k v d.size (d.toList.flatMap enc)

theorem flat_get {α : Type} [Inhabited α] {enc : α → List Value} {k : Nat} (hk : ∀ x, (enc x).length = k) : ∀ (l : List α) (i c : Nat), i < l.length → c < k → (l.flatMap enc)[i * k + c]? = (enc l[i]!)[c]?
  | [], i, c, hi, _ => absurd hi (Nat.not_lt_zero _)
  | x :: l, 0, c, _, hc => by
    rw [List.flatMap_cons, Nat.zero_mul, Nat.zero_add, List.getElem?_append_left (by rw [hk]; exact hc)]
    rfl
  | x :: l, i + 1, c, hi, hc => by
    have e : (i + 1) * k + c = (enc x).length + (i * k + c) := by rw [hk, Nat.succ_mul]; omega
    rw [List.flatMap_cons, e, List.getElem?_append_right (by omega), Nat.add_sub_cancel_left, flat_get hk l i c (by simpa using hi) hc]
    rfl

section
variable {α : Type} [Inhabited α] {enc : α → List Value} {k B : Nat} {T : TypeId} {w w' : World} {v : Value} {d : Array α}

theorem RowAt.form (h : RowAt enc k T B w v d) (hk : ∀ x, (enc x).length = k) : ∃ (A : Option Addr) (cap : Nat), v = .slice A d.size cap ∧ (d.size = 0 ∨ ∃ g, A = some ⟨g, 0, none⟩) ∧
    ∀ g, A = some ⟨g, 0, none⟩ → B ≤ g ∧ g < w.heap.size ∧ (∃ cur, w.heap[g]? = some (.cells cur T (0, 0))) ∧ ∀ i, i < d.size → ∀ c, c < k → w.cell? ⟨g, i * k + c, none⟩ = (enc d[i]!)[c]? := by
  have h0 := h
  rcases h.2 with ⟨rfl, hn⟩ | ⟨g, cap, cur, rfl, hb, hg, hc, hm, hs, ht⟩
  · exact ⟨none, 0, by rw [hn], .inl hn, fun g hg => by cases hg⟩
  · refine ⟨_, cap, rfl, .inr ⟨g, rfl⟩, fun g' hg' => ?_⟩
    obtain rfl : g = g' := by injection hg' with e; injection e
    refine ⟨hb, blk_lt hg, ⟨cur, hg⟩, fun i hi c hc' => ?_⟩
    have e : i * k + c < d.size * k := by
      have := Nat.mul_le_mul_right k (show i + 1 ≤ d.size from hi); rw [Nat.succ_mul] at this; omega
    rw [World.ownsRow.cellAt (h := h) (i * k + c) e, flat_get hk d.toList i c (by simpa using hi) hc', show d.toList[i]! = d[i]! by simp [getElem!_def]]

omit [Inhabited α] in
theorem RowAt.keep (h : RowAt enc k T B w v d) (hb : ∀ g, B ≤ g → g < w.heap.size → w'.heap[g]? = w.heap[g]?) : RowAt enc k T B w' v d := by
  refine ⟨h.1, ?_⟩
  rcases h.2 with hn | ⟨g, cap, cur, hv, hB, hg, rest⟩
  · exact .inl hn
  · exact .inr ⟨g, cap, cur, hv, hB, (hb g hB (blk_lt hg)).trans hg, rest⟩
omit [Inhabited α] in
theorem RowAt.below (h : RowAt enc k T B w v d) {n : Nat} (hb : Below n w w') (hn : w.heap.size ≤ n) : RowAt enc k T B w' v d := h.keep fun g _ hg => hb.block g (by omega)
end

/-- A piece. -/
structure Pc where
  frm : Int
  data : ByteArray
  more : Bool
instance : Inhabited Pc := ⟨⟨0, ⟨#[]⟩, false⟩⟩
def encP (p : Pc) : List Value := [.int .i64 p.frm, .string p.data, .bool p.more]
theorem encP_len (p : Pc) : (encP p).length = 3 := rfl
def Pc.to_ (p : Pc) : Int := p.frm + (p.data.size : Int)
/-- A piece that may stand in a body. -/
structure Pc.Ok (p : Pc) : Prop where
  lo : 0 ≤ p.frm
  hi : p.frm ≤ 65528
  unit : p.frm % 8 = 0
  len : p.frm + (p.data.size : Int) ≤ 65535
  mid : p.more = true → 0 < p.data.size ∧ p.data.size % 8 = 0

theorem to_any (p : Pc) (w : World) (h0 : 0 ≤ p.frm) (h1 : p.frm + (p.data.size : Int) ≤ 65535) :
    Calls Try.prog 79 #[.agg #[.int .i64 p.frm, .string p.data, .bool p.more]] w fun e w' => e = .returned (.int .i64 p.to_) ∧ w' = w.alloc (.cells #[.int .i64 p.frm, .string p.data, .bool p.more] 150) := by
  have hs : p.data.size ≤ 65535 := by omega
  go_enter Try.func79, Try.ntmps79
  go_wp2
  go_ret
  exact ⟨rfl, rfl⟩

/-- A body that pieces stand in. -/
structure BodyAt (B : Nat) (w : World) (b : Nat) (v : Value) (d : Array Pc) (e : Int) : Prop where
  base : B ≤ b
  blk : w.heap[b]? = some (.cells #[v, .int .i64 e] 148 (0, 0))
  row : RowAt encP 3 150 B w v d
  ok : ∀ i, i < d.size → d[i]!.Ok
  lo : -1 ≤ e
  hi : e ≤ 65535
  few : d.size ≤ 1000

theorem new_any (w : World) :
    Calls Try.prog 33 #[] w fun e w' => e = .returned (.pointer (some ⟨w.heap.size, 0, none⟩)) ∧ w' = w.alloc (.cells #[.slice none 0 0, .int .i64 (-1)] 148) := by
  go_enter Try.func33, Try.ntmps33
  go_wp2
  go_ret
  exact ⟨rfl, rfl⟩

theorem ba_nil {s : ByteArray} (h : s.size = 0) : s.toList = [] ∧ s.toList.isEmpty = true := by
  have : s.toList = [] := by
    rw [ByteArray.toList_eq]
    exact List.eq_nil_of_length_eq_zero (by rw [← Lib.size_eq]; exact h)
  exact ⟨this, by rw [this]; rfl⟩
theorem ba_cons {s : ByteArray} (h : ¬ s.size = 0) : (¬ s.toList = []) ∧ s.toList.isEmpty = false := by
  have : ¬ s.toList = [] := fun e => h (by
    rw [ByteArray.toList_eq] at e
    rw [Lib.size_eq, e]; rfl)
  exact ⟨this, by cases hs : s.toList with | nil => exact absurd hs this | cons => rfl⟩

def shapeN (p : Pc) : Int :=
  if p.frm < 0 ∨ p.frm > 65528 ∨ p.frm % 8 ≠ 0 ∨ (p.data.size : Int) > 65535 - p.frm then 1
  else if p.more = true ∧ (p.data.size = 0 ∨ p.data.size % 8 ≠ 0) then 3 else 0

theorem shapeN_bad {p : Pc} (h : p.frm < 0 ∨ p.frm > 65528 ∨ p.frm % 8 ≠ 0 ∨ (p.data.size : Int) > 65535 - p.frm) : shapeN p = 1 := if_pos h
theorem shapeN_form {p : Pc} (h : ¬ (p.frm < 0 ∨ p.frm > 65528 ∨ p.frm % 8 ≠ 0 ∨ (p.data.size : Int) > 65535 - p.frm)) (h2 : p.more = true ∧ (p.data.size = 0 ∨ p.data.size % 8 ≠ 0)) : shapeN p = 3 := by
  rw [shapeN, if_neg h, if_pos h2]
theorem shapeN_ok {p : Pc} (h : ¬ (p.frm < 0 ∨ p.frm > 65528 ∨ p.frm % 8 ≠ 0 ∨ (p.data.size : Int) > 65535 - p.frm)) (h2 : ¬ (p.more = true ∧ (p.data.size = 0 ∨ p.data.size % 8 ≠ 0))) : shapeN p = 0 := by
  rw [shapeN, if_neg h, if_neg h2]
theorem shapeN_zero {p : Pc} (h : shapeN p = 0) : p.Ok := by
  unfold shapeN at h
  split at h
  · cases h
  · rename_i h1
    split at h
    · cases h
    · rename_i h2
      simp only [not_or] at h1
      refine ⟨by omega, by omega, by omega, by omega, fun hm => ?_⟩
      simp only [hm, true_and, not_or] at h2
      omega

set_option maxHeartbeats 1600000 in
theorem shape_any (p : Pc) (w : World) (hsz : p.data.size ≤ maxLen) :
    Calls Try.prog 75 #[.agg #[.int .i64 p.frm, .string p.data, .bool p.more]] w fun e w' => e = .returned (.int .i64 (shapeN p)) ∧ w' = w.alloc (.cells #[.int .i64 p.frm, .string p.data, .bool p.more] 150) := by
  unfold maxLen at hsz
  by_cases h1 : p.frm < 0
  · have hr := shapeN_bad (p := p) (.inl h1)
    generalize shapeN p = r at hr ⊢
    have HR := Lib.hid hr; clear hr
    go_enter Try.func75, Try.ntmps75
    go_wp2
    go_ret
    exact ⟨ret_int HR.out.symm, rfl⟩
  by_cases h2 : p.frm > 65528
  · have hr := shapeN_bad (p := p) (.inr (.inl h2))
    generalize shapeN p = r at hr ⊢
    have HR := Lib.hid hr; clear hr
    go_enter Try.func75, Try.ntmps75
    go_wp2
    go_ret
    exact ⟨ret_int HR.out.symm, rfl⟩
  by_cases h3 : p.frm % 8 ≠ 0
  · have hr := shapeN_bad (p := p) (.inr (.inr (.inl h3)))
    generalize shapeN p = r at hr ⊢
    have HR := Lib.hid hr; clear hr
    go_enter Try.func75, Try.ntmps75
    go_wp2
    go_ret
    exact ⟨ret_int HR.out.symm, rfl⟩
  by_cases h4 : (p.data.size : Int) > 65535 - p.frm
  · have hr := shapeN_bad (p := p) (.inr (.inr (.inr h4)))
    generalize shapeN p = r at hr ⊢
    have HR := Lib.hid hr; clear hr
    go_enter Try.func75, Try.ntmps75
    go_wp2
    go_ret
    exact ⟨ret_int HR.out.symm, rfl⟩
  have hn : ¬ (p.frm < 0 ∨ p.frm > 65528 ∨ p.frm % 8 ≠ 0 ∨ (p.data.size : Int) > 65535 - p.frm) := by simp only [not_or]; exact ⟨h1, h2, h3, h4⟩
  by_cases h5 : p.more = true ∧ (p.data.size = 0 ∨ p.data.size % 8 ≠ 0)
  · have hr := shapeN_form hn h5
    obtain ⟨h5, h6⟩ := h5
    clear hn
    generalize shapeN p = r at hr ⊢
    have HR := Lib.hid hr; clear hr
    by_cases h7 : p.data.size = 0
    · obtain ⟨e1, e2⟩ := ba_nil h7
      clear h6 h7
      go_enter Try.func75, Try.ntmps75
      go_wp2
      go_ret
      exact ⟨ret_int HR.out.symm, rfl⟩
    · obtain ⟨e1, e2⟩ := ba_cons h7
      have e3 : (((p.data.size : Nat) : Int) % 8 != 0) = true := by rw [bne_iff_ne]; omega
      clear h6 h7
      go_enter Try.func75, Try.ntmps75
      go_wp2
      go_ret
      exact ⟨ret_int HR.out.symm, rfl⟩
  · have hr := shapeN_ok hn h5
    clear hn
    generalize shapeN p = r at hr ⊢
    have HR := Lib.hid hr; clear hr
    by_cases h6 : p.more = true
    · simp only [h6, true_and, not_or] at h5
      obtain ⟨e1, e2⟩ := ba_cons h5.1
      have e3 : (((p.data.size : Nat) : Int) % 8 != 0) = false := by rw [bne_eq_false_iff_eq]; omega
      clear h5
      go_enter Try.func75, Try.ntmps75
      go_wp2
      go_ret
      exact ⟨ret_int HR.out.symm, rfl⟩
    · have h6 : p.more = false := by simpa using h6
      clear h5
      go_enter Try.func75, Try.ntmps75
      go_wp2
      go_ret
      exact ⟨ret_int HR.out.symm, rfl⟩

end Go.Proofs.Ytcmgfmpmapnckaa
