/- Walks of package hole, part six: Add. -/
import Derived.Test.YtcmgfmpmapnckaaHu
import Derived.Deep.RegionLaw
namespace Go.Proofs.Ytcmgfmpmapnckaa
open Go.Shelf Go.RowKit Go.Lib Go.Sort
set_option linter.unusedVariables false
set_option linter.unusedSimpArgs false

theorem swoP : SWO (ltOf cfP) where
  irrefl x := by rw [ltP_false]; omega
  trans x y z h1 h2 := by rw [ltP_true] at *; omega
  ntrans x y z h1 h2 := by rw [ltP_false] at *; omega

theorem BodyAt.below {B b : Nat} {v : Value} {d : Array Pc} {e : Int} {w w' : World} (h : BodyAt B w b v d e) (hb : Below w.heap.size w w') : BodyAt B w' b v d e :=
  { h with blk := (hb.block b (blk_lt h.blk)).trans h.blk, row := h.row.below hb (Nat.le_refl _) }

/-- The blocks that a body's call may turn. -/
def bodyS (b : Nat) (v : Value) (k : Nat) : Prop := k = b ∨ v.ownBlock = some k
theorem Foot.to_below {B b : Nat} {v : Value} {d : Array Pc} {e : Int} {w w' : World} (h : BodyAt B w b v d e) (hf : Foot (bodyS b v) w w') : Below B w w' :=
  ⟨hf.os, hf.tape, hf.output, hf.size, fun k hk => hf.block k (by have := h.base; have := blk_lt h.blk; omega) (fun hs => by
    rcases hs with rfl | hs
    · have := h.base; omega
    · have := (h.row.lt k hs).1; omega)⟩

def Same (d : Array Pc) (e : Int) (d' : Array Pc) (e' : Int) : Prop := d' = d ∧ e' = e
/-- What Add answers, and what the body is then. -/
def AddStep (d : Array Pc) (e : Int) (p : Pc) (r : Int) (d' : Array Pc) (e' : Int) : Prop :=
  if shapeN p ≠ 0 then r = shapeN p ∧ Same d e d' e'
  else if (d.toList.any fun y => eqP p y) = true then r = 0 ∧ Same d e d' e'
  else if d.toList.any (ovl p) = true then r = 7 ∧ Same d e d' e'
  else if endsB d e p = true then r = 3 ∧ Same d e d' e'
  else r = 0 ∧ e' = (if p.more = true then e else p.to_) ∧ Merged (ltOf cfP) 0 (d.size + 1) (d.push p) d'
def AddPost (B : Nat) (w : World) (b : Nat) (d : Array Pc) (e : Int) (p : Pc) (r : Ending) (w' : World) : Prop :=
  ∃ (n : Int) (v' : Value) (d' : Array Pc) (e' : Int), r = .returned (.int .i64 n) ∧ AddStep d e p n d' e' ∧ Below B w w' ∧ BodyAt B w' b v' d' e'
def AddPost2 (B : Nat) (w : World) (b : Nat) (v : Value) (d : Array Pc) (e : Int) (p : Pc) (r : Ending) (w' : World) : Prop :=
  ∃ (n : Int) (v' : Value) (d' : Array Pc) (e' : Int), r = .returned (.int .i64 n) ∧ AddStep d e p n d' e' ∧ Foot (bodyS b v) w w' ∧ BodyAt B w' b v' d' e'

theorem own_ne {B : Nat} {w : World} {b : Nat} {T E : TypeId} {k : Nat} {cs : Array Value} {fr : Nat × Nat} {v : Value} {n : Nat} {xs : List Value} (hown : w.ownsRow B E k v n xs) (hb : w.heap[b]? = some (.cells cs T fr)) (hT : E ≠ T) : v.ownBlock ≠ some b := by
  rcases hown.2 with ⟨rfl, _⟩ | ⟨g, cap, cur, rfl, _, hg, _⟩
  · simp [Value.ownBlock]
  · intro he
    have : g = b := by simpa [Value.ownBlock] using he
    subst this
    rw [hg] at hb
    injection hb with hb
    injection hb with _ ht
    exact hT ht
theorem BodyAt.setEnd {B b : Nat} {v : Value} {d : Array Pc} {e : Int} {w : World} (h : BodyAt B w b v d e) (n : Int) (h0 : -1 ≤ n) (h1 : n ≤ 65535) : BodyAt B (w.setCell ⟨b, 1, none⟩ (.int .i64 n)) b v d n :=
  ⟨h.base, (blk_set h.blk 1 _).trans rfl, ownsRow_setCell_other h.row (own_ne h.row h.blk (by decide)) _, h.ok, h0, h1, h.few⟩
theorem below_set {B b : Nat} {w w' : World} (h : Below B w w') (hb : B ≤ b) (i : Nat) (u : Value) : Below B w (w'.setCell ⟨b, i, none⟩ u) := h.setCell (p := ⟨b, i, none⟩) hb u

/-- On the way through Add: the body stands, the piece lies in its box. -/
structure AddSt (B : Nat) (w : World) (b pb : Nat) (v : Value) (d : Array Pc) (e : Int) (p : Pc) (W : World) : Prop where
  body : BodyAt B W b v d e
  box : W.heap[pb]? = some (.cells #[.int .i64 p.frm, .string p.data, .bool p.more] 150 (0, 0))
  foot : Foot (bodyS b v) w W
theorem AddSt.step {B : Nat} {w : World} {b pb : Nat} {v : Value} {d : Array Pc} {e : Int} {p : Pc} {W W' : World} (h : AddSt B w b pb v d e p W) (hb : Below W.heap.size W W') : AddSt B w b pb v d e p W' :=
  ⟨h.body.below hb, (hb.block pb (blk_lt h.box)).trans h.box, h.foot.trans (Foot.of_below hb fun k hk _ => hk)⟩
theorem AddSt.cells {B : Nat} {w : World} {b pb : Nat} {v : Value} {d : Array Pc} {e : Int} {p : Pc} {W : World} (h : AddSt B w b pb v d e p W) :
    W.cell? ⟨b, 0, none⟩ = some v ∧ W.cell? ⟨b, 1, none⟩ = some (.int .i64 e) ∧ W.cell? ⟨pb, 0, none⟩ = some (.int .i64 p.frm) ∧ W.cell? ⟨pb, 1, none⟩ = some (.string p.data) ∧ W.cell? ⟨pb, 2, none⟩ = some (.bool p.more) ∧ b < W.heap.size ∧ pb < W.heap.size :=
  ⟨(blk_cell h.body.blk 0).trans rfl, (blk_cell h.body.blk 1).trans rfl, (blk_cell h.box 0).trans rfl, (blk_cell h.box 1).trans rfl, (blk_cell h.box 2).trans rfl, blk_lt h.body.blk, blk_lt h.box⟩

theorem encP_one : ∀ x, ∀ v ∈ encP x, v.oneCell' = true := by
  intro x v hv
  simp only [encP, List.mem_cons, List.not_mem_nil, or_false] at hv
  rcases hv with rfl | rfl | rfl <;> rfl

theorem push_get {α : Type} [Inhabited α] (d : Array α) (p : α) {P : α → Prop} (h : ∀ i, i < d.size → P d[i]!) (hp : P p) : ∀ i, i < (d.push p).size → P (d.push p)[i]! := by
  intro i hi
  rw [Array.size_push] at hi
  rw [getElem!_pos (d.push p) i (by rw [Array.size_push]; exact hi), Array.getElem_push]
  split
  · rename_i h1
    have := h i h1
    rwa [getElem!_pos d i h1] at this
  · exact hp

/-- The body behind the append: the piece stands last. -/
theorem BodyAt.pushed {B b : Nat} {v : Value} {d : Array Pc} {e : Int} {W w1 : World} {p : Pc} {g cap : Nat} (h : BodyAt B W b v d e) (hok : p.Ok) (hd : d.size < 1000)
    (hq : w1.heap[b]? = some (.cells #[v, .int .i64 e] 148 (0, 0))) (hown : w1.ownsRow B 150 3 (.slice (some ⟨g, 0, none⟩) (d.size + 1) cap) (d.size + 1) (d.toList.flatMap encP ++ encP p)) :
    BodyAt B (w1.setCell ⟨b, 0, none⟩ (.slice (some ⟨g, 0, none⟩) (d.size + 1) cap)) b (.slice (some ⟨g, 0, none⟩) (d.push p).size cap) (d.push p) e := by
  have hr : RowAt encP 3 150 B w1 (.slice (some ⟨g, 0, none⟩) (d.push p).size cap) (d.push p) := by
    unfold RowAt
    rw [Array.size_push, Array.toList_push, List.flatMap_append]
    simpa using hown
  refine ⟨h.base, ?_, ownsRow_setCell_other hr (own_ne hr hq (by decide)) _, push_get d p h.ok hok, h.lo, h.hi, by rw [Array.size_push]; omega⟩
  rw [Array.size_push]
  exact (blk_set hq 0 _).trans rfl
/-- .. and behind the sort. -/
theorem BodyAt.sorted {B b : Nat} {d d' : Array Pc} {e : Int} {W W' : World} {g cap : Nat} (h : BodyAt B W b (.slice (some ⟨g, 0, none⟩) d.size cap) d e) (hM : Merged (ltOf cfP) 0 d.size d d') (S : SWK encP 3 W g 0 d' W') :
    BodyAt B W' b (.slice (some ⟨g, 0, none⟩) d'.size cap) d' e ∧ Foot (fun k => k = g) W W' := by
  obtain ⟨hr, hf⟩ := h.row.sorted encP_len (by decide) S hM.1.1.1
  have hne : b ≠ g := fun e => by
    have := own_ne h.row h.blk (by decide)
    rw [e] at this
    exact this rfl
  have hs : d'.size = d.size := hM.1.1.1
  refine ⟨⟨h.base, ?_, hr, ?_, h.lo, h.hi, by rw [hs]; exact h.few⟩, hf⟩
  · rw [hs]; exact (hf.block b (blk_lt h.blk) hne).trans h.blk
  · intro i hi
    exact permIn_all d d' 0 d.size (fun x => x.Ok) (Nat.le_refl _) hM.1.1 (fun i _ hi => h.ok i hi) i (Nat.zero_le _) (by omega)

theorem info150 : (Try.prog.info? 150).map (fun i => (i.zero, i.size, i.bytes)) = some (some (.agg #[.int .i64 0, .string ⟨#[]⟩, .bool false]), 3, 32) := by kernel_rfl

set_option maxHeartbeats 8000000 in
set_option maxRecDepth 100000 in
theorem add_foot {B b : Nat} {v : Value} {d : Array Pc} {e : Int} (p : Pc) (w : World) (h : BodyAt B w b v d e) (hd : d.size < 1000) (hsz : p.data.size ≤ maxLen) :
    Calls Try.prog 34 #[.pointer (some ⟨b, 0, none⟩), .int .i64 p.frm, .string p.data, .bool p.more] w (AddPost2 B w b v d e p) := by
  have hBw : B ≤ w.heap.size := by have := h.base; have := blk_lt h.blk; omega
  have hF0 : Below w.heap.size w (w.alloc (.cells #[.int .i64 p.frm, .string p.data, .bool p.more] 150)) := (Below.refl _ _).alloc (Nat.le_refl _) _
  have hF1 : Below w.heap.size w ((w.alloc (.cells #[.int .i64 p.frm, .string p.data, .bool p.more] 150)).alloc (.cells #[.int .i64 p.frm, .string p.data, .bool p.more] 150)) := hF0.alloc (by simp) _
  have hS := shape_any p (w.alloc (.cells #[.int .i64 p.frm, .string p.data, .bool p.more] 150)) hsz
  have HD : Aside (BodyAt B w b v d e) := h
  by_cases hsh : shapeN p = 0
  · have hok := shapeN_zero hsh
    have HSH := Lib.hid hsh
    rw [hsh] at hS
    have h1 : BodyAt B ((w.alloc (.cells #[.int .i64 p.frm, .string p.data, .bool p.more] 150)).alloc (.cells #[.int .i64 p.frm, .string p.data, .bool p.more] 150)) b v d e := h.below hF1
    have hk1 : ((w.alloc (.cells #[.int .i64 p.frm, .string p.data, .bool p.more] 150)).alloc (.cells #[.int .i64 p.frm, .string p.data, .bool p.more] 150)).heap[w.heap.size]? = some (.cells #[.int .i64 p.frm, .string p.data, .bool p.more] 150 (0, 0)) := blk_alloc (blk_new _ _) _
    have hst : AddSt B w b w.heap.size v d e p ((w.alloc (.cells #[.int .i64 p.frm, .string p.data, .bool p.more] 150)).alloc (.cells #[.int .i64 p.frm, .string p.data, .bool p.more] 150)) := ⟨h1, hk1, Foot.of_below hF1 fun k hk _ => hk⟩
    generalize hW : (w.alloc (.cells #[.int .i64 p.frm, .string p.data, .bool p.more] 150)).alloc (.cells #[.int .i64 p.frm, .string p.data, .bool p.more] 150) = W1 at *
    have HW := Lib.hid hW
    have HST : Aside (AddSt B w b w.heap.size v d e p W1) := hst
    clear hsh hF0 hF1 h hW h1 hk1
    obtain ⟨c0, c1, d0, d1, d2, hbl, hpl⟩ := hst.cells
    have hC := contains_any p W1.drew hst.body.row hst.body.few
    clear hst
    simp only [encP] at hC
    generalize hcn : (d.toList.any fun y => eqP p y) = cn at hC
    have HCN := Lib.hid hcn
    clear hcn
    go_enter Try.func34, Try.ntmps34
    go_wp2_with (go_at_call 75; refine hS.mono ?_; rintro r w1 ⟨rfl, rfl⟩)
    go_region_held3 (fun w' => w'.cell? ⟨b, 0, none⟩ = some v ∧ w'.cell? ⟨w.heap.size, 0, none⟩ = some (.int .i64 p.frm) ∧ w'.cell? ⟨w.heap.size, 1, none⟩ = some (.string p.data) ∧ w'.cell? ⟨w.heap.size, 2, none⟩ = some (.bool p.more)) (first | (exact ⟨(hcx _ _ hbl).trans c0, (hcx _ _ hpl).trans d0, (hcx _ _ hpl).trans d1, (hcx _ _ hpl).trans d2⟩) | go_keep)
      ((go_at_call 76; refine hC.mono ?_; rintro r w2 ⟨rfl, hb2⟩; obtain ⟨hcx, hfx⟩ := bcell hb2))
    have HS2 : Aside (AddSt B w b w.heap.size v d e p w2) := AddSt.step (W := w1.drew) ⟨⟨HST.out.body.base, HST.out.body.blk, HST.out.body.row, HST.out.body.ok, HST.out.body.lo, HST.out.body.hi, HST.out.body.few⟩, HST.out.box, HST.out.foot.trans (Foot.drew _ _)⟩ hb2
    clear c0 c1 d0 d1 d2 hbl hpl hC hb2 hcx hfx
    try clear hHeld
    have HSH2 : ¬ (shapeN p ≠ 0) := fun h => h HSH.out
    cases cn with
    | true =>
      have hr : AddStep d e p 0 d e := by unfold AddStep; rw [if_neg HSH2, if_pos HCN.out]; exact ⟨rfl, rfl, rfl⟩
      have HR := Lib.hid hr
      clear hr
      go_wp2
      go_ret
      exact ⟨0, v, d, e, rfl, HR.out, HS2.out.foot, HS2.out.body⟩
    | false =>
      have hCF : ¬ (d.toList.any fun y => eqP p y) = true := by rw [HCN.out]; simp
      have HCF := Lib.hid hCF
      clear hCF
      have hO := overlaps_any p w2 HS2.out.body
      generalize hov : d.toList.any (ovl p) = ov at hO
      have HOV := Lib.hid hov
      clear hov
      obtain ⟨c0, c1, d0, d1, d2, hbl, hpl⟩ := HS2.out.cells
      go_wp2_with fail
      refine hO.mono ?_
      rintro r w3 ⟨rfl, hb3⟩
      have HS3 : Aside (AddSt B w b w.heap.size v d e p w3) := HS2.out.step hb3
      clear c0 c1 d0 d1 d2 hbl hpl hO hb3 HS2
      cases ov with
      | true =>
        have hr : AddStep d e p 7 d e := by unfold AddStep; rw [if_neg HSH2, if_neg HCF.out, if_pos HOV.out]; exact ⟨rfl, rfl, rfl⟩
        have HR := Lib.hid hr
        clear hr
        go_wp2
        go_ret
        exact ⟨7, v, d, e, rfl, HR.out, HS3.out.foot, HS3.out.body⟩
      | false =>
        have hOF : ¬ d.toList.any (ovl p) = true := by rw [HOV.out]; simp
        have HOF := Lib.hid hOF
        clear hOF
        have hE := ends_any p w3 HS3.out.body hok
        generalize hen : endsB d e p = en at hE
        have HEN := Lib.hid hen
        clear hen
        obtain ⟨c0, c1, d0, d1, d2, hbl, hpl⟩ := HS3.out.cells
        go_wp2_with fail
        refine hE.mono ?_
        rintro r w4 ⟨rfl, hb4⟩
        have HS4 : Aside (AddSt B w b w.heap.size v d e p w4) := HS3.out.step hb4
        clear c0 c1 d0 d1 d2 hbl hpl hE hb4 HS3
        cases en with
        | true =>
          have hr : AddStep d e p 3 d e := by unfold AddStep; rw [if_neg HSH2, if_neg HCF.out, if_neg HOF.out, if_pos HEN.out]; exact ⟨rfl, rfl, rfl⟩
          have HR := Lib.hid hr
          clear hr
          go_wp2
          go_ret
          exact ⟨3, v, d, e, rfl, HR.out, HS4.out.foot, HS4.out.body⟩
        | false =>
          have hEF : ¬ endsB d e p = true := by rw [HEN.out]; simp
          have HEF := Lib.hid hEF
          clear hEF
          obtain ⟨c0, c1, d0, d1, d2, hbl, hpl⟩ := HS4.out.cells
          have hT := to_any p w4 hok.lo hok.len
          have hfr : (w4.alloc (.cells #[.int .i64 p.frm, .string p.data, .bool p.more] 150)).frozen? ⟨b, 1, none⟩ = false := blk_free (blk_alloc HS4.out.body.blk _) 1
          have hce : (w4.alloc (.cells #[.int .i64 p.frm, .string p.data, .bool p.more] 150)).cell? ⟨b, 1, none⟩ = some (.int .i64 e) := (blk_cell (blk_alloc HS4.out.body.blk _) 1).trans rfl
          have hT0 : 0 ≤ p.to_ := by have := hok.lo; unfold Pc.to_; omega
          have hT1 : p.to_ ≤ 65535 := by have := hok.len; unfold Pc.to_; omega
          have HS5 : Aside (AddSt B w b w.heap.size v d e p (w4.alloc (.cells #[.int .i64 p.frm, .string p.data, .bool p.more] 150))) := HS4.out.step ((Below.refl _ _).alloc (Nat.le_refl _) _)
          obtain ⟨mo, hmo⟩ : ∃ mo, mo = p.more := ⟨_, rfl⟩
          rw [← hmo] at hT hfr hce d2 HS5 ⊢
          have HMO := Lib.hid hmo
          clear hmo
          go_upto_if 38 with fail
          go_cut [] from 38 to 43 (fun wx => ∃ e1 : Int, Aside (AddSt B w b w.heap.size v d e1 p wx) ∧ Aside (e1 = if mo = true then e else p.to_))
          case first =>
            cases mo with
            | true =>
              go_wp2
              go_meet
              exact ⟨e, HS4, rfl⟩
            | false =>
              go_wp2_with (go_at_call 79; refine hT.mono ?_; rintro r w5 ⟨rfl, rfl⟩)
              go_meet
              have hne : b ≠ w.heap.size := fun hx => by
                have h1 := HS4.out.body.blk
                have h2 := HS4.out.box
                rw [hx, h2] at h1
                cases h1
              have h5 : AddSt B w b w.heap.size v d p.to_ p (w4.setCell ⟨b, 1, none⟩ (.int .i64 p.to_)) :=
                ⟨HS4.out.body.setEnd p.to_ (by omega) hT1, blk_set_ne HS4.out.box _ (fun hx => hne hx.symm), HS4.out.foot.trans (Foot.setCell _ _ _ (.inl rfl))⟩
              exact ⟨p.to_, h5.step ((Below.refl _ _).alloc (Nat.le_refl _) _), rfl⟩
          case rest =>
            clear HS4 c0 c1 d0 d1 d2 hbl hpl hT hfr hce hT0 hT1 HS5
            obtain ⟨e1, HS5, HE1⟩ := hcut
            obtain ⟨c0, c1, d0, d1, d2, hbl, hpl⟩ := HS5.out.cells
            rw [← HMO.out] at d2
            obtain ⟨i0, hi0, hz0, hz1, hz2⟩ := info_parts info150
            have hown : wc.ownsRow B 150 3 v d.size (d.toList.flatMap encP) := HS5.out.body.row
            have hvb : v.ownBlock ≠ some b := own_ne hown HS5.out.body.blk (by decide)
            have hvp : ∀ k, v.ownBlock = some k → B ≤ k ∧ k < wc.heap.size := hown.lt
            have HOW := Lib.hid hown
            clear hown
            have hn : d.size + 1 ≤ maxLen := by unfold maxLen; omega
            have hby : (d.size + 1) * 32 ≤ 140737488355328 := by omega
            have hBc : B ≤ wc.heap.size := by have := HS5.out.body.base; omega
            have hfr : wc.frozen? ⟨b, 0, none⟩ = false := blk_free HS5.out.body.blk 0
            have HNB := World.news_of_block (w := (wc.alloc (.cells #[.int .i64 p.frm, .string p.data, .bool mo] 150)).drew) (cs := #[.int .i64 p.frm, .string p.data, .bool mo]) (t := 150) (fr := (0, 0)) (heap_alloc_new wc _)
            have HNBH := Lib.hid HNB
            clear HNB
            go_wp2_with fail
            have HQ : ∀ w1, ((wc.alloc (.cells #[.int .i64 p.frm, .string p.data, .bool mo] 150)).drew).grownBy w1 v.ownBlock → w1.heap[b]? = some (.cells #[v, .int .i64 e1] 148 (0, 0)) := fun w1 hg =>
              (hg.block b (by show b < (wc.alloc _).heap.size; simp; omega) (fun e => hvb e.symm)).trans (blk_alloc HS5.out.body.blk _)
            have HG : ∀ w1, ((wc.alloc (.cells #[.int .i64 p.frm, .string p.data, .bool mo] 150)).drew).grownBy w1 v.ownBlock → Foot (bodyS b v) w w1 := fun w1 hg =>
              ((HS5.out.foot.trans (Foot.alloc _ _ _)).trans (Foot.drew _ _)).trans (Foot.grown hg fun k hk => .inr hk)
            have HQH := Lib.hid HQ
            have HGH := Lib.hid HG
            clear HQ HG
            go_region_law (refine step_append_lies _ rfl (.tmp 48) (.tmp 50) 146 rfl B 150 i0 _ 3 32 Try.underlying146 hi0 hz0 hz1 hz2 rfl (by omega) v d.size _ rfl ((HOW.out.alloc _).drew) ⟨wc.heap.size, 0, none⟩ 1 1 [.int .i64 p.frm, .string p.data, .bool mo] rfl rfl HNBH.out (by simp [Value.oneCell']) (by omega) hn hby (by simp; omega) _ rfl ?_; intro g2 cap2 w5 hown1 hgrow hat hlt2; have q1 : w5.cell? ⟨b, 0, none⟩ = some v := (blk_cell (HQH.out _ hgrow) 0).trans rfl; have q2 : w5.frozen? ⟨b, 0, none⟩ = false := blk_free (HQH.out _ hgrow) 0)
            all_goals
              have HB6 := HS5.out.body.pushed (g := g2) (cap := cap2) hok hd (HQH.out _ hgrow) (by rw [show encP p = [.int .i64 p.frm, .string p.data, .bool mo] by rw [HMO.out]; rfl]; exact hown1)
              have HF6 : Foot (bodyS b v) w (w5.setCell ⟨b, 0, none⟩ (.slice (some ⟨g2, 0, none⟩) (d.size + 1) cap2)) := (HGH.out _ hgrow).trans (Foot.setCell _ _ _ (.inl rfl))
              have HAT : Aside (∀ i, i < w.heap.size → i = g2 → bodyS b v i) := fun i hi hg => by
                subst hg
                rcases hat with hat | hat
                · exact .inr hat
                · have h1 : (wc.alloc (.cells #[.int .i64 p.frm, .string p.data, .bool mo] 150)).drew.heap.size = wc.heap.size + 1 := by simp
                  have h2 := HS5.out.foot.size
                  omega
              generalize w5.setCell ⟨b, 0, none⟩ (.slice (some ⟨g2, 0, none⟩) (d.size + 1) cap2) = W6 at HB6 HF6 ⊢
              have hR : RowK encP 3 W6 g2 0 (d.push p) := ⟨encP_len, encP_one, HB6.row.holds encP_len (by decide), (HB6.row.lt g2 rfl).2⟩
              have c6 : W6.cell? ⟨b, 0, none⟩ = some (.slice (some ⟨g2, 0, none⟩) (d.size + 1) cap2) := by
                have := (blk_cell HB6.blk 0).trans rfl
                rwa [Array.size_push] at this
              have hSo := sortStable_P 3 Try.isAgg150 Try.sizeOf150 encP cfP swoP 81 #[] g2 0 cap2 (d.push p) W6 (enters_of Try.func81 (by kernel_rfl) rfl) (cmpLaysP _ _ _ _) hR (by rw [Array.size_push]; omega)
              rw [Array.size_push] at hSo
              have HB7 : Aside _ := HB6
              have HF7 := Lib.hid HF6
              clear hR HB6 HF6 q1 q2 hown1 hgrow hat hlt2 hi0 hz0 hz1 hz2 hn hby hvb hvp c0 c1 d0 d1 d2 hbl hpl hfr HS5
              go_wp2_with fail
              refine hSo.mono ?_
              rintro r w7 ⟨rfl, d1, hM, hS⟩
              have hfin := HB7.out.sorted (by rw [Array.size_push]; exact hM) hS
              have hstep : AddStep d e p 0 d1 e1 := by
                unfold AddStep
                rw [if_neg HSH2, if_neg HCF.out, if_neg HOF.out, if_neg HEF.out]
                exact ⟨rfl, by rw [← HMO.out]; exact HE1.out, hM⟩
              have HFIN := Lib.hid hfin
              have HSTEP := Lib.hid hstep
              clear hSo hM hS hfin hstep c6
              go_wp2
              go_ret
              exact ⟨0, _, d1, e1, rfl, HSTEP.out, Foot.trans' HF7.out HFIN.out.2 HAT.out, HFIN.out.1⟩
  · have hne : (shapeN p != 0) = true := by rw [bne_iff_ne]; exact hsh
    have hr : AddStep d e p (shapeN p) d e := by unfold AddStep; rw [if_pos hsh]; exact ⟨rfl, rfl, rfl⟩
    generalize shapeN p = s at hne hr hS
    have HR := Lib.hid hr
    have HF := Lib.hid hF1
    clear hr hF0 hF1 h hsh
    go_enter Try.func34, Try.ntmps34
    go_wp2_with (go_at_call 75; refine hS.mono ?_; rintro r w1 ⟨rfl, rfl⟩)
    go_ret
    exact ⟨s, v, d, e, rfl, HR.out, Foot.of_below HF.out fun k hk _ => hk, HD.out.below HF.out⟩

theorem add_any {B b : Nat} {v : Value} {d : Array Pc} {e : Int} (p : Pc) (w : World) (h : BodyAt B w b v d e) (hd : d.size < 1000) (hsz : p.data.size ≤ maxLen) :
    Calls Try.prog 34 #[.pointer (some ⟨b, 0, none⟩), .int .i64 p.frm, .string p.data, .bool p.more] w (AddPost B w b d e p) :=
  (add_foot p w h hd hsz).mono fun _ _ ⟨n, v', d', e', h1, h2, h3, h4⟩ => ⟨n, v', d', e', h1, h2, Foot.to_below h h3, h4⟩

end Go.Proofs.Ytcmgfmpmapnckaa
