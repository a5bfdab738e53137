/- Walks of package hole, part four: Contains, overlaps, ends. -/
import Derived.Test.YtcmgfmpmapnckaaHq
namespace Go.Proofs.Ytcmgfmpmapnckaa
open Go.Shelf Go.RowKit Go.Lib Go.Sort
set_option linter.unusedVariables false
set_option linter.unusedSimpArgs false
def Try.containsP_ren : Go.Shelf.Ren := ⟨fun | 7 => 76 | 6 => 115 | n => n, fun | 22 => 146 | 24 => 150 | 4 => 4 | 0 => 0 | 3 => 3 | n => n, fun | n => n⟩
theorem Try.containsP : Go.Proofs.SlLaysQ.n7 Try.prog Try.containsP_ren := {
  mixed := by kernel_rfl,
  f6 := ⟨Try.f115.name, by decide, Try.func115.trans (congrArg some (by kernel_rfl))⟩,
  f7 := ⟨Try.f76.name, by decide, Try.func76.trans (congrArg some (by kernel_rfl))⟩,
  t0 := Try.underlying0,
  a0 := Try.isAgg0,
  z0 := Try.sizeOf0,
  v0 := Try.zeroValue0,
  t3 := Try.underlying3,
  a3 := Try.isAgg3,
  z3 := Try.sizeOf3,
  v3 := Try.zeroValue3,
  t4 := Try.underlying4,
  a4 := Try.isAgg4,
  z4 := Try.sizeOf4,
  v4 := Try.zeroValue4,
  t22 := Try.underlying146,
  a22 := Try.isAgg146,
  z22 := Try.sizeOf146,
  v22 := Try.zeroValue146 }
def Try.containsFuncP_ren : Go.Shelf.Ren := ⟨fun | 8 => 116 | 6 => 141 | n => n, fun | 22 => 146 | 23 => 150 | 25 => 153 | 4 => 4 | 3 => 3 | 0 => 0 | n => n, fun | n => n⟩
theorem Try.containsFuncP : Go.Proofs.SlLaysH0.n8 Try.prog Try.containsFuncP_ren := {
  mixed := by kernel_rfl,
  f6 := ⟨Try.f141.name, by decide, Try.func141.trans (congrArg some (by kernel_rfl))⟩,
  f8 := ⟨Try.f116.name, by decide, Try.func116.trans (congrArg some (by kernel_rfl))⟩,
  t0 := Try.underlying0,
  a0 := Try.isAgg0,
  z0 := Try.sizeOf0,
  v0 := Try.zeroValue0,
  t3 := Try.underlying3,
  a3 := Try.isAgg3,
  z3 := Try.sizeOf3,
  v3 := Try.zeroValue3,
  t4 := Try.underlying4,
  a4 := Try.isAgg4,
  z4 := Try.sizeOf4,
  v4 := Try.zeroValue4,
  t22 := Try.underlying146,
  a22 := Try.isAgg146,
  z22 := Try.sizeOf146,
  v22 := Try.zeroValue146,
  t25 := Try.underlying153,
  a25 := Try.isAgg153,
  z25 := Try.sizeOf153,
  v25 := Try.zeroValue153 }

def eqP (x y : Pc) : Bool := x.frm == y.frm && x.data.toList == y.data.toList && x.more == y.more
theorem eqP_iff (x y : Pc) : eqP x y = true ↔ x = y := by
  cases x; cases y
  simp only [eqP, Bool.and_eq_true, beq_iff_eq, Pc.mk.injEq]
  constructor
  · rintro ⟨⟨h1, h2⟩, h3⟩
    refine ⟨h1, ?_, h3⟩
    rw [ByteArray.toList_eq, ByteArray.toList_eq] at h2
    exact ByteArray.ext (Array.toList_inj.1 h2)
  · rintro ⟨rfl, rfl, rfl⟩
    exact ⟨⟨rfl, rfl⟩, rfl⟩

theorem eqlP : EqlAt Try.prog 150 (fun x => .agg (encP x).toArray) eqP := by
  refine ⟨fun x y w => ?_, GuardAt.agg _ (by kernel_rfl)⟩
  have hS : Try.prog.underlying 150 = some (.struct (Try.prog.fieldsOf 150)) := by kernel_rfl
  have hp : Try.prog.stoodInHeld 150 = false := by kernel_rfl
  simp only [encP]
  rw [run_eql_struct, show (10000 : Nat) = 9999 + 1 from rfl, run_equalIn_agg w 9999 150 _ _ hS hp]
  simp only [Program.fieldsOf, Try.underlying150]
  go_simp
  unfold eqP
  obtain ⟨xf, xd, xm⟩ := x
  obtain ⟨yf, yd, ym⟩ := y
  by_cases h1 : xf = yf <;> by_cases h2 : xd.toList = yd.toList <;> cases xm <;> cases ym <;> simp [h1, h2]

theorem index_nil (p : Pc) (w : World) : Calls Try.prog 115 #[.slice none 0 0, .agg (encP p).toArray] w fun e w' => e = .returned (.int .i64 (-1)) ∧ Below w.heap.size w w' := by
  show Calls Try.prog 115 #[.slice none 0 0, .agg #[.int .i64 p.frm, .string p.data, .bool p.more]] w _
  go_enter Try.func115, Try.ntmps115
  go_wp2
  go_loopg [8] 0 (fun kx s8 wr => s8 = .int .i64 0 ∧ wr = w.alloc (.cells #[.int .i64 p.frm, .string p.data, .bool p.more] 150))
  case atStart => exact ⟨rfl, rfl⟩
  case round =>
    obtain ⟨rfl, rfl⟩ := hrel
    go_wp2
    go_ret
    exact ⟨rfl, (Below.refl _ _).alloc (Nat.le_refl _) _⟩
theorem contains_nil (p : Pc) (w : World) : Calls Try.prog 76 #[.slice none 0 0, .agg (encP p).toArray] w fun e w' => e = .returned (.bool false) ∧ Below w.heap.size w w' := by
  have h := fun W => index_nil p W
  show Calls Try.prog 76 #[.slice none 0 0, .agg #[.int .i64 p.frm, .string p.data, .bool p.more]] w _
  simp only [encP] at h
  go_enter Try.func76, Try.ntmps76
  go_wp2_with (go_at_call 115; refine (h _).mono ?_; rintro e w1 ⟨rfl, hb⟩)
  go_ret
  exact ⟨rfl, ((Below.refl _ _).alloc (Nat.le_refl _) _).trans (hb.mono (by simp))⟩
theorem indexFunc_nil (g : Nat) (cb : Array Value) (w : World) : Calls Try.prog 141 #[.slice none 0 0, .func (.func g) #[] cb] w fun e w' => e = .returned (.int .i64 (-1)) ∧ w = w' := by
  go_enter Try.func141, Try.ntmps141
  go_wp2
  go_loopg [8] 0 (fun kx s8 wr => s8 = .int .i64 0 ∧ wr = w)
  case atStart => exact ⟨rfl, rfl⟩
  case round =>
    obtain ⟨rfl, rfl⟩ := hrel
    go_wp2
    go_ret
    exact ⟨rfl, rfl⟩
theorem containsFunc_nil (g : Nat) (cb : Array Value) (w : World) : Calls Try.prog 116 #[.slice none 0 0, .func (.func g) #[] cb] w fun e w' => e = .returned (.bool false) ∧ w = w' := by
  have h := indexFunc_nil g cb w
  go_enter Try.func116, Try.ntmps116
  go_wp2_with (go_at_call 141; refine h.mono ?_; rintro e w1 ⟨rfl, rfl⟩)
  go_ret
  exact ⟨rfl, rfl⟩

theorem contains_any {B : Nat} {v : Value} {d : Array Pc} (p : Pc) (w : World) (h : RowAt encP 3 150 B w v d) (hd : d.size ≤ 1000) :
    Calls Try.prog 76 #[v, .agg (encP p).toArray] w fun e w' => e = .returned (.bool (d.toList.any fun y => eqP p y)) ∧ Below w.heap.size w w' := by
  obtain ⟨A, cap, rfl, hA, hf⟩ := h.form encP_len
  rcases h.2 with ⟨hv, hn⟩ | ⟨g, cap', cur, hv, _⟩
  · have hd0 : d.toList = [] := List.eq_nil_of_length_eq_zero (by simpa using hn)
    rw [hv, hd0]
    exact contains_nil p w
  · injection hv with hA' _ _
    subst hA'
    obtain ⟨_, hg, _, hc⟩ := hf g rfl
    have := AnyQ.slices_Contains Try.containsP 3 Try.isAgg150 Try.sizeOf150 encP encP_len eqP eqlP g 0 d.size cap d.toList p w (by simp) (by omega) (fun j hj i u hu => by
      have hj' : j < d.size := by simpa using hj
      have hi : i < 3 := by
        rcases Nat.lt_or_ge i 3 with hi | hi
        · exact hi
        · rw [List.getElem?_eq_none (by rw [encP_len]; exact hi)] at hu; cases hu
      rw [Nat.zero_add, hc j hj' i hi]
      rw [← hu]; congr 2; simp [getElem!_def])
    rwa [List.take_of_length_le (by simp)] at this
theorem to_raw (p : Pc) (w : World) :
    Calls Try.prog 79 #[.agg #[.int .i64 p.frm, .string p.data, .bool p.more]] w fun e w' => e = .returned (.int .i64 (IntKind.i64.wrap (p.frm + (p.data.size : Int)))) ∧ w' = w.alloc (.cells #[.int .i64 p.frm, .string p.data, .bool p.more] 150) := by
  go_enter Try.func79, Try.ntmps79
  go_wp2
  go_ret
  exact ⟨ret_int (IntWalk.i64_left _).symm, rfl⟩

def ovl (p x : Pc) : Bool := decide (max p.frm x.frm < min (IntKind.i64.wrap (p.frm + (p.data.size : Int))) (IntKind.i64.wrap (x.frm + (x.data.size : Int))))

set_option maxHeartbeats 4000000 in
theorem overlap_pred (p : Pc) (pb : Nat) (w : World) (hpb : w.heap[pb]? = some (.cells #[.int .i64 p.frm, .string p.data, .bool p.more] 150 (0, 0))) :
    PredBelow Try.prog 117 #[.pointer (some ⟨pb, 0, none⟩)] (fun x => .agg (encP x).toArray) (ovl p) w := fun W x hb => by
  have hk : W.heap[pb]? = some (.cells #[.int .i64 p.frm, .string p.data, .bool p.more] 150 (0, 0)) := (hb.block pb (blk_lt hpb)).trans hpb
  have hlt : pb < W.heap.size := blk_lt hk
  have c0 : W.cell? ⟨pb, 0, none⟩ = some (.int .i64 p.frm) := (blk_cell hk 0).trans rfl
  have c1 : W.cell? ⟨pb, 1, none⟩ = some (.string p.data) := (blk_cell hk 1).trans rfl
  have c2 : W.cell? ⟨pb, 2, none⟩ = some (.bool p.more) := (blk_cell hk 2).trans rfl
  have k0 : ∀ o1 o2 o3, (((W.alloc o1).alloc o2).alloc o3).cell? ⟨pb, 0, none⟩ = some (.int .i64 p.frm) := fun o1 o2 o3 => (blk_cell (blk_alloc (blk_alloc (blk_alloc hk o1) o2) o3) 0).trans rfl
  have k1 : ∀ o1 o2 o3, (((W.alloc o1).alloc o2).alloc o3).cell? ⟨pb, 1, none⟩ = some (.string p.data) := fun o1 o2 o3 => (blk_cell (blk_alloc (blk_alloc (blk_alloc hk o1) o2) o3) 1).trans rfl
  have k2 : ∀ o1 o2 o3, (((W.alloc o1).alloc o2).alloc o3).cell? ⟨pb, 2, none⟩ = some (.bool p.more) := fun o1 o2 o3 => (blk_cell (blk_alloc (blk_alloc (blk_alloc hk o1) o2) o3) 2).trans rfl
  have hne : pb ≠ W.heap.size := by omega
  have HB := Lib.hid hb
  have hs := hb.size
  clear hk hpb hb
  show Calls Try.prog 117 #[.agg #[.int .i64 x.frm, .string x.data, .bool x.more], .pointer (some ⟨pb, 0, none⟩)] W _
  go_enter Try.func117, Try.ntmps117
  go_wp2_with fail
  go_region_held3 (fun w' => w'.cell? ⟨pb, 0, none⟩ = some (.int .i64 p.frm) ∧ w'.cell? ⟨pb, 1, none⟩ = some (.string p.data) ∧ w'.cell? ⟨pb, 2, none⟩ = some (.bool p.more) ∧
      w'.cell? ⟨W.heap.size, 0, none⟩ = some (.int .i64 x.frm) ∧ w'.cell? ⟨W.heap.size, 1, none⟩ = some (.string x.data) ∧ w'.cell? ⟨W.heap.size, 2, none⟩ = some (.bool x.more)) (go_keep)
    (first
      | (go_at_call_of 79 (Value.agg #[.int .i64 p.frm, .string p.data, .bool p.more]); refine (to_raw p _).mono ?_; rintro e w' ⟨rfl, rfl⟩)
      | (go_at_call_of 79 (Value.agg #[.int .i64 x.frm, .string x.data, .bool x.more]); refine (to_raw x _).mono ?_; rintro e w' ⟨rfl, rfl⟩))
  all_goals
    go_wp2
    go_ret
    refine ⟨ret_bool rfl, ?_⟩
    have hF := ((HB.out.alloc hs (.cells #[.int .i64 x.frm, .string x.data, .bool x.more] 150)).alloc (by simp; omega) (.cells #[.int .i64 p.frm, .string p.data, .bool p.more] 150)).alloc (by simp; omega) (.cells #[.int .i64 x.frm, .string x.data, .bool x.more] 150)
    first | exact hF | exact hF.drew

theorem containsFunc_any {B : Nat} {v : Value} {d : Array Pc} (p : Pc) (pb : Nat) (w : World) (h : RowAt encP 3 150 B w v d) (hd : d.size ≤ 1000) (hpb : w.heap[pb]? = some (.cells #[.int .i64 p.frm, .string p.data, .bool p.more] 150 (0, 0))) :
    Calls Try.prog 116 #[v, .func (.func 117) #[] #[.pointer (some ⟨pb, 0, none⟩)]] w fun e w' => e = .returned (.bool (d.toList.any (ovl p))) ∧ Below w.heap.size w w' := by
  obtain ⟨A, cap, rfl, hA, hf⟩ := h.form encP_len
  have eg : ∀ args w, (callFunc 117 args).run Try.prog w = .ok (.enter 117 args) w := enters_of Try.func117 (by kernel_rfl) rfl
  rcases h.2 with ⟨hv, hn⟩ | ⟨g, cap', cur, hv, _⟩
  · have hd0 : d.toList = [] := List.eq_nil_of_length_eq_zero (by simpa using hn)
    rw [hv, hd0]
    exact (containsFunc_nil 117 _ w).mono fun _ _ ⟨he, hw⟩ => ⟨he, hw ▸ Below.refl _ _⟩
  · injection hv with hA' _ _
    subst hA'
    obtain ⟨_, hg, _, hc⟩ := hf g rfl
    have := AnyQ.slices_ContainsFunc Try.containsFuncP 3 Try.isAgg150 Try.sizeOf150 encP encP_len (ovl p) 117 #[.pointer (some ⟨pb, 0, none⟩)] eg g 0 d.size cap d.toList w (overlap_pred p pb w hpb) (by simp) (by omega) hg (fun j hj i u hu => by
      have hj' : j < d.size := by simpa using hj
      have hi : i < 3 := by
        rcases Nat.lt_or_ge i 3 with hi | hi
        · exact hi
        · rw [List.getElem?_eq_none (by rw [encP_len]; exact hi)] at hu; cases hu
      rw [Nat.zero_add, hc j hj' i hi]
      rw [← hu]; congr 2; simp [getElem!_def])
    rwa [List.take_of_length_le (by simp)] at this

theorem overlaps_any {B b : Nat} {v : Value} {d : Array Pc} {e : Int} (p : Pc) (w : World) (h : BodyAt B w b v d e) :
    Calls Try.prog 77 #[.pointer (some ⟨b, 0, none⟩), .agg #[.int .i64 p.frm, .string p.data, .bool p.more]] w fun r w' => r = .returned (.bool (d.toList.any (ovl p))) ∧ Below w.heap.size w w' := by
  have hbk := blk_alloc h.blk (.cells #[.int .i64 p.frm, .string p.data, .bool p.more] 150)
  have hc0 : (w.alloc (.cells #[.int .i64 p.frm, .string p.data, .bool p.more] 150)).cell? ⟨b, 0, none⟩ = some v := (blk_cell hbk 0).trans rfl
  have hrow : RowAt encP 3 150 B (w.alloc (.cells #[.int .i64 p.frm, .string p.data, .bool p.more] 150)) v d := h.row.keep fun g _ hg => Below.heap_alloc _ _ _ hg
  have hc := containsFunc_any p w.heap.size _ hrow h.few (blk_new _ _)
  have HC := Lib.hid hc
  clear hc hbk h hrow
  go_enter Try.func77, Try.ntmps77
  go_wp2_with (go_at_call 116; refine HC.out.mono ?_; rintro r w1 ⟨rfl, hb⟩)
  go_ret
  exact ⟨ret_bool (by simp), ((Below.refl _ _).alloc (Nat.le_refl _) _).trans (hb.mono (by simp))⟩

theorem bcell {W w1 : World} (hb : Below W.heap.size W w1) : (∀ b o, b < W.heap.size → w1.cell? ⟨b, o, none⟩ = W.cell? ⟨b, o, none⟩) ∧ (∀ b o, b < W.heap.size → w1.frozen? ⟨b, o, none⟩ = W.frozen? ⟨b, o, none⟩) :=
  ⟨fun b o h => hb.cell (p := ⟨b, o, none⟩) h, fun b o h => hb.frozen (p := ⟨b, o, none⟩) h⟩

/-- Does a piece not go with the end? -/
def endsB (d : Array Pc) (e : Int) (p : Pc) : Bool :=
  if p.more = true then decide (0 ≤ e) && decide (e < p.to_) else decide (0 ≤ e) || decide (p.to_ < lastTo d d.size)

set_option maxHeartbeats 4000000 in
theorem ends_any {B b : Nat} {v : Value} {d : Array Pc} {e : Int} (p : Pc) (w : World) (h : BodyAt B w b v d e) (hok : p.Ok) :
    Calls Try.prog 78 #[.pointer (some ⟨b, 0, none⟩), .agg #[.int .i64 p.frm, .string p.data, .bool p.more]] w fun r w' => r = .returned (.bool (endsB d e p)) ∧ Below w.heap.size w w' := by
  have hw1 : BodyAt B (w.alloc (.cells #[.int .i64 p.frm, .string p.data, .bool p.more] 150)) b v d e :=
    { h with blk := blk_alloc h.blk _, row := h.row.keep fun g _ hg => Below.heap_alloc _ _ _ hg }
  have hc1 : (w.alloc (.cells #[.int .i64 p.frm, .string p.data, .bool p.more] 150)).cell? ⟨b, 1, none⟩ = some (.int .i64 e) := (blk_cell hw1.blk 1).trans rfl
  have hT := fun W => to_any p W hok.lo hok.len
  have hf : Below w.heap.size w (w.alloc (.cells #[.int .i64 p.frm, .string p.data, .bool p.more] 150)) := (Below.refl _ _).alloc (Nat.le_refl _) _
  have HF := Lib.hid hf
  have hT0 : 0 ≤ p.to_ := by have := hok.lo; unfold Pc.to_; omega
  have hT1 : p.to_ ≤ 65535 := by have := hok.len; unfold Pc.to_; omega
  have hL := lastTo_bd d h.ok d.size (Nat.le_refl _)
  have he0 := h.lo
  have he1 := h.hi
  have hLa := last_any (w.alloc (.cells #[.int .i64 p.frm, .string p.data, .bool p.more] 150)).drew ⟨hw1.base, hw1.blk, hw1.row, hw1.ok, hw1.lo, hw1.hi, hw1.few⟩
  have hT2 := fun W => to_any p W hok.lo hok.len
  by_cases hm : p.more = true
  · by_cases he : 0 ≤ e
    · have hr : endsB d e p = decide (e < p.to_) := by rw [endsB, if_pos hm, decide_eq_true he, Bool.true_and]
      generalize endsB d e p = R at hr ⊢
      have HR := Lib.hid hr
      rw [hm] at hc1 hT HF ⊢
      clear hr h hf hw1 hm hLa hT2
      have hsz : w.heap.size < (w.alloc (.cells #[.int .i64 p.frm, .string p.data, .bool true] 150)).heap.size := by simp
      go_enter Try.func78, Try.ntmps78
      go_wp2_with fail
      go_region_held3 (fun w' => w'.cell? ⟨b, 1, none⟩ = some (.int .i64 e) ∧ w'.cell? ⟨w.heap.size, 0, none⟩ = some (.int .i64 p.frm) ∧ w'.cell? ⟨w.heap.size, 1, none⟩ = some (.string p.data) ∧ w'.cell? ⟨w.heap.size, 2, none⟩ = some (.bool true)) (go_keep)
        ((go_at_call 79; refine (hT _).mono ?_; rintro e' w' ⟨rfl, rfl⟩))
      all_goals
        go_wp2
        go_ret
        refine ⟨ret_bool (by rw [HR.out]), ?_⟩
        have hF := HF.out.alloc (by simp) (.cells #[.int .i64 p.frm, .string p.data, .bool true] 150)
        first | exact hF | exact hF.drew
    · have hr : endsB d e p = false := by rw [endsB, if_pos hm, decide_eq_false he, Bool.false_and]
      generalize endsB d e p = R at hr ⊢
      have HR := Lib.hid hr
      rw [hm] at hc1 HF ⊢
      clear hr h hf hw1 hT hm hLa hT2
      go_enter Try.func78, Try.ntmps78
      go_wp2
      go_ret
      exact ⟨ret_bool HR.out.symm, HF.out⟩
  · have hm2 : p.more = false := by simpa using hm
    by_cases he : 0 ≤ e
    · have hr : endsB d e p = true := by rw [endsB, if_neg hm, decide_eq_true he, Bool.true_or]
      generalize endsB d e p = R at hr ⊢
      have HR := Lib.hid hr
      rw [hm2] at hc1 HF ⊢
      clear hr h hf hw1 hT hm hm2 hLa hT2
      go_enter Try.func78, Try.ntmps78
      go_wp2_with fail
      go_quiet (fail)
      go_wp2
      go_ret
      exact ⟨ret_bool HR.out.symm, ⟨HF.out.os, HF.out.tape, HF.out.output, HF.out.size, HF.out.block⟩⟩
    · have hr : endsB d e p = decide (p.to_ < lastTo d d.size) := by rw [endsB, if_neg hm, decide_eq_false he, Bool.false_or]
      generalize endsB d e p = R at hr ⊢
      have HR := Lib.hid hr
      generalize lastTo d d.size = L at hLa hL HR
      rw [hm2] at hc1 HF hT hLa ⊢
      have hbl : b < w.heap.size + 1 := by have := blk_lt h.blk; omega
      have hg1 : decide (0 ≤ e) = false := decide_eq_false he
      have hg2 : decide (e ≥ 0) = false := decide_eq_false he
      clear hr h hf hm hm2 hT2 hw1
      go_enter Try.func78, Try.ntmps78
      go_wp2_with fail
      go_region_held3 (fun w' => w'.cell? ⟨b, 1, none⟩ = some (.int .i64 e) ∧ w'.cell? ⟨w.heap.size, 0, none⟩ = some (.int .i64 p.frm) ∧ w'.cell? ⟨w.heap.size, 1, none⟩ = some (.string p.data) ∧ w'.cell? ⟨w.heap.size, 2, none⟩ = some (.bool false)) (go_keep)
        (first
          | (go_at_call 79; refine (hT _).mono ?_; rintro e' w' ⟨rfl, rfl⟩)
          | (go_at_call 118; refine hLa.mono ?_; rintro e' w' ⟨rfl, hb'⟩; obtain ⟨hcx, hfx⟩ := bcell hb'))
      all_goals
        have hF := HF.out.drew.trans (hb'.mono (show w.heap.size ≤ (w.alloc (.cells #[.int .i64 p.frm, .string p.data, .bool false] 150)).drew.heap.size by simp))
        have hF2 := hF.alloc hF.size (.cells #[.int .i64 p.frm, .string p.data, .bool false] 150)
        clear hb' hcx hfx hF
        go_wp2
        go_ret
        refine ⟨ret_bool (by rw [HR.out]), ?_⟩
        first | exact hF2 | exact hF2.drew

end Go.Proofs.Ytcmgfmpmapnckaa
