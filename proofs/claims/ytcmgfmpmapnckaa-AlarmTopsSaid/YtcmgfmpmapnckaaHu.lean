/- Walks of package hole, part five: the comparison, Add. -/
import Derived.Test.YtcmgfmpmapnckaaHr
namespace Go.Proofs.Ytcmgfmpmapnckaa
open Go.Shelf Go.RowKit Go.Lib Go.Sort
set_option linter.unusedVariables false
set_option linter.unusedSimpArgs false

def cmpI (a b : Int) : Int := if a < b then -1 else if b < a then 1 else 0
theorem isNaN_any (a : Int) (w : World) : Calls Try.prog 105 #[.int .i64 a] w fun e w' => e = .returned (.bool false) ∧ w = w' := by
  go_enter Try.func105, Try.ntmps105
  go_wp2
  go_ret
  exact ⟨ret_bool (by simp), rfl⟩
theorem compare_any (a b : Int) (w : World) : Calls Try.prog 63 #[.int .i64 a, .int .i64 b] w fun e w' => e = .returned (.int .i64 (cmpI a b)) ∧ w = w' := by
  have hN := fun x W => isNaN_any x W
  by_cases h1 : a < b
  · have hr : cmpI a b = -1 := if_pos h1
    rw [hr]; clear hr
    go_enter Try.func63, Try.ntmps63
    go_wp2_with (go_at_call 105; refine (hN _ _).mono ?_; rintro e w1 ⟨rfl, rfl⟩)
    go_ret
    exact ⟨rfl, rfl⟩
  · by_cases h2 : b < a
    · have hr : cmpI a b = 1 := by rw [cmpI, if_neg h1, if_pos h2]
      rw [hr]; clear hr
      go_enter Try.func63, Try.ntmps63
      go_wp2_with (go_at_call 105; refine (hN _ _).mono ?_; rintro e w1 ⟨rfl, rfl⟩)
      go_ret
      exact ⟨rfl, rfl⟩
    · have hr : cmpI a b = 0 := by rw [cmpI, if_neg h1, if_neg h2]
      rw [hr]; clear hr
      go_enter Try.func63, Try.ntmps63
      go_wp2_with (go_at_call 105; refine (hN _ _).mono ?_; rintro e w1 ⟨rfl, rfl⟩)
      go_ret
      exact ⟨rfl, rfl⟩

def orI (a b : Int) : Int := if a = 0 then b else a
theorem or_any (a b : Int) (x : Nat) (w : World) (h : w.heap[x]? = some (.cells #[.int .i64 a, .int .i64 b] 3 (0, 0))) :
    Calls Try.prog 82 #[.slice (some ⟨x, 0, none⟩) 2 2] w fun e w' => e = .returned (.int .i64 (orI a b)) ∧ w = w' := by
  have c0 : w.cell? ⟨x, 0, none⟩ = some (.int .i64 a) := (blk_cell h 0).trans rfl
  have c1 : w.cell? ⟨x, 1, none⟩ = some (.int .i64 b) := (blk_cell h 1).trans rfl
  clear h
  go_enter Try.func82, Try.ntmps82
  go_wp2
  go_loopg [8] 2 (fun kx s8 wr => ∃ i : Nat, s8 = .int .i64 i ∧ i ≤ 2 ∧ 2 - i ≤ kx ∧ wr = w ∧ Aside ((0 < i → a = 0) ∧ (1 < i → b = 0)))
  case atStart => exact ⟨0, rfl, by omega, by omega, rfl, (⟨fun h => by omega, fun h => by omega⟩ : (_ → _) ∧ (_ → _))⟩
  case round =>
    obtain ⟨i, rfl, hi, hkx, rfl, I⟩ := hrel
    match i, hi, I with
    | 0, _, I =>
      by_cases h0 : a = 0
      · have H0 := Lib.hid h0
        have hb : (a != 0) = false := by rw [h0]; rfl
        clear h0
        go_wp2
        go_roundg 1
        case measure => omega
        case rel => exact ⟨1, rfl, by omega, by omega, rfl, (⟨fun _ => H0.out, fun h => by omega⟩ : (_ → _) ∧ (_ → _))⟩
      · go_wp2
        go_ret
        exact ⟨ret_int (by rw [orI, if_neg h0]), rfl⟩
    | 1, _, I =>
      by_cases h0 : b = 0
      · have H0 := Lib.hid h0
        have hb : (b != 0) = false := by rw [h0]; rfl
        clear h0
        go_wp2
        go_roundg 0
        case measure => omega
        case rel => exact ⟨2, rfl, by omega, by omega, rfl, (⟨fun _ => I.out.1 (by omega), fun _ => H0.out⟩ : (_ → _) ∧ (_ → _))⟩
      · go_wp2
        go_ret
        exact ⟨ret_int (by rw [orI, if_pos (I.out.1 (by omega))]), rfl⟩
    | 2, _, I =>
      go_wp2
      go_ret
      exact ⟨ret_int (by rw [orI, if_pos (I.out.1 (by omega)), I.out.2 (by omega)]), rfl⟩
    | i + 3, hi, _ => exact absurd hi (by omega)

theorem blk_new' (w : World) (o : Obj) (n : Nat) (h : w.heap.size = n) : (w.alloc o).heap[n]? = some o := by subst h; exact heap_alloc_new w o

def cfP (x y : Pc) : Int := orI (cmpI x.frm y.frm) (cmpI (x.data.size : Int) (y.data.size : Int))

set_option maxHeartbeats 4000000 in
set_option maxRecDepth 100000 in
theorem cmp_any (x y : Pc) (W : World) :
    Calls Try.prog 81 #[.agg #[.int .i64 x.frm, .string x.data, .bool x.more], .agg #[.int .i64 y.frm, .string y.data, .bool y.more]] W fun e w' => e = .returned (.int .i64 (cfP x y)) ∧ ∃ q os', w' = grow (W.drewN q) os' := by
  have hC := fun a b w => compare_any a b w
  have hO : ∀ o1 o2 a b, Calls Try.prog 82 #[.slice (some ⟨W.heap.size + 2, 0, none⟩) 2 2] ((((W.alloc o1).alloc o2).drew).alloc (.cells #[.int .i64 a, .int .i64 b] 3)) fun e w' => e = .returned (.int .i64 (orI a b)) ∧ (((W.alloc o1).alloc o2).drew).alloc (.cells #[.int .i64 a, .int .i64 b] 3) = w' :=
    fun o1 o2 a b => or_any a b _ _ (blk_new' _ _ _ (by simp))
  unfold cfP
  go_enter Try.func81, Try.ntmps81
  go_wp2_with fail
  go_region_held3 (fun w' => w'.cell? ⟨W.heap.size, 0, none⟩ = some (.int .i64 x.frm) ∧ w'.cell? ⟨W.heap.size, 1, none⟩ = some (.string x.data) ∧ w'.cell? ⟨W.heap.size + 1, 0, none⟩ = some (.int .i64 y.frm) ∧ w'.cell? ⟨W.heap.size + 1, 1, none⟩ = some (.string y.data)) (go_keep)
    (first
      | (go_at_call 63; refine (hC _ _ _).mono ?_; rintro e w' ⟨rfl, rfl⟩)
      | (go_at_call 82; refine (hO _ _ _ _).mono ?_; rintro e w' ⟨rfl, rfl⟩))
  all_goals
    go_wp2
    go_ret
    refine ⟨rfl, 1, #[.cells #[.int .i64 x.frm, .string x.data, .bool x.more] 150, .cells #[.int .i64 y.frm, .string y.data, .bool y.more] 150, .cells #[.int .i64 (cmpI x.frm y.frm), .int .i64 (cmpI (x.data.size : Int) (y.data.size : Int))] 3], ?_⟩
    rfl

theorem cmpLaysP (blk off size : Nat) (w : World) : CmpLays Try.prog 81 #[] encP 3 cfP blk off size w := fun m os dk hs x y => cmp_any x y _

theorem cmpI_neg {a b : Int} : cmpI a b < 0 ↔ a < b := by unfold cmpI; split <;> (try split) <;> omega
theorem cmpI_zero {a b : Int} : cmpI a b = 0 ↔ a = b := by unfold cmpI; split <;> (try split) <;> omega
theorem cfP_neg (x y : Pc) : cfP x y < 0 ↔ x.frm < y.frm ∨ (x.frm = y.frm ∧ x.data.size < y.data.size) := by
  unfold cfP orI
  by_cases h : cmpI x.frm y.frm = 0
  · rw [if_pos h, cmpI_neg]; rw [cmpI_zero] at h; omega
  · rw [if_neg h, cmpI_neg]; rw [cmpI_zero] at h; omega
theorem ltP_true {x y : Pc} : ltOf cfP x y = true ↔ x.frm < y.frm ∨ (x.frm = y.frm ∧ x.data.size < y.data.size) := by
  unfold ltOf; rw [decide_eq_true_iff, cfP_neg]
theorem ltP_false {x y : Pc} : ltOf cfP x y = false ↔ y.frm < x.frm ∨ (x.frm = y.frm ∧ y.data.size ≤ x.data.size) := by
  unfold ltOf; rw [decide_eq_false_iff_not, cfP_neg]; omega

section
variable {α : Type} [Inhabited α] {enc : α → List Value} {k B : Nat} {T : TypeId} {w w' : World} {d d' : Array α} {g cap : Nat}

omit [Inhabited α] in
theorem flat_len (hk : ∀ x, (enc x).length = k) : ∀ l : List α, (l.flatMap enc).length = l.length * k
  | [] => by simp
  | x :: l => by rw [List.flatMap_cons, List.length_append, hk, flat_len hk l, List.length_cons, Nat.succ_mul]; omega
theorem flatK_list (hk : ∀ x, (enc x).length = k) (h0 : 0 < k) (d : Array α) : (flatK enc k d).toList = d.toList.flatMap enc := by
  have hlen : (d.toList.flatMap enc).length = d.size * k := by rw [flat_len hk, Array.length_toList]
  refine List.ext_getElem? fun t => ?_
  by_cases ht : t < d.size * k
  · have h1 : t / k < d.size := (Nat.div_lt_iff_lt_mul h0).2 ht
    have h2 : t % k < k := Nat.mod_lt _ h0
    have e := flat_get hk d.toList (t / k) (t % k) (by simpa using h1) h2
    have et : t / k * k + t % k = t := by rw [Nat.mul_comm]; exact Nat.div_add_mod t k
    rw [et] at e
    rw [e]
    have hg := get_flatK enc k d t ht
    have hs : t < (flatK enc k d).size := by rw [size_flatK]; exact ht
    rw [Array.getElem?_toList, Array.getElem?_eq_getElem hs]
    rw [getElem!_pos _ t hs] at hg
    rw [hg]
    have e2 : d.toList[t / k]! = d[t / k]! := by simp [getElem!_def]
    rw [e2]
    have h3 : t % k < (enc d[t / k]!).length := by rw [hk]; exact h2
    rw [List.getElem?_eq_getElem h3, getElem!_pos (enc d[t / k]!) (t % k) h3]
  · rw [List.getElem?_eq_none (by simp; omega), List.getElem?_eq_none (by omega)]

theorem RowAt.holds (h : RowAt enc k T B w (.slice (some ⟨g, 0, none⟩) d.size cap) d) (hk : ∀ x, (enc x).length = k) (h0 : 0 < k) : HoldsK enc k w g 0 d := by
  intro t ht
  rw [size_flatK] at ht
  refine ⟨?_, World.ownsRow.frozenAt (h := h) _⟩
  rw [Nat.zero_add, World.ownsRow.cellAt (h := h) t ht, ← flatK_list hk h0, Array.getElem?_toList]
  have hs : t < (flatK enc k d).size := by rw [size_flatK]; exact ht
  rw [Array.getElem?_eq_getElem hs]
  rw [show (flatK enc k d)[t]! = (flatK enc k d)[t] from getElem!_pos (flatK enc k d) t hs]
  rfl

/-- What a sort leaves: the row, sorted; every other block as it was. -/
theorem RowAt.sorted (h : RowAt enc k T B w (.slice (some ⟨g, 0, none⟩) d.size cap) d) (hk : ∀ x, (enc x).length = k) (h0 : 0 < k) (S : SWK enc k w g 0 d' w') (hs : d'.size = d.size) :
    RowAt enc k T B w' (.slice (some ⟨g, 0, none⟩) d'.size cap) d' ∧ Foot (fun b => b = g) w w' := by
  obtain ⟨n, os, rfl⟩ := S
  rcases h.2 with ⟨h', _⟩ | ⟨g', cap', cur, h', hb, hg, hc, hm, hz, ht⟩
  · cases h'
  · simp only [Value.slice.injEq, Option.some.injEq, Addr.mk.injEq, and_true, true_and] at h'
    obtain ⟨rfl, rfl⟩ := h'
    have hlt := blk_lt hg
    have hle : d.size * k ≤ cur.size := by rw [hz]; exact Nat.mul_le_mul_right k hc
    have hheap : ∀ b, b < w.heap.size → (sortWorldK enc k w g 0 n d' os).heap[b]? = if g = b then (w.heap[b]?).map (onCells (putCells id 0 (flatK enc k d'))) else w.heap[b]? := by
      intro b hb'
      show ((w.heap.modify g (onCells (putCells id 0 (flatK enc k d')))) ++ os)[b]? = _
      rw [Array.getElem?_append_left (by simpa using hb'), Array.getElem?_modify]
    refine ⟨⟨?_, .inr ⟨g, cap, putCells id 0 (flatK enc k d') cur, by rw [hs], hb, ?_, by omega, hm, by simp [putCells, hz], ?_⟩⟩, ⟨rfl, rfl, rfl, ?_, fun b hb' hn => ?_⟩⟩
    · rw [← flatK_list hk h0]; simp
    · rw [hheap g hlt, if_pos rfl, hg]; rfl
    · rw [← flatK_list hk h0]
      refine List.ext_getElem? fun t => ?_
      by_cases ht' : t < d'.size * k
      · have hs' : t < (flatK enc k d').size := by rw [size_flatK]; exact ht'
        have hcur : t < cur.size := by rw [hs] at ht'; omega
        rw [List.getElem?_take, if_pos ht', Array.getElem?_toList, Array.getElem?_toList, Array.getElem?_eq_getElem hs']
        simp only [putCells, Array.getElem?_mapIdx, Array.getElem?_eq_getElem hcur, Option.map_some]
        rw [if_pos ⟨Nat.zero_le _, by simpa using ht'⟩, Nat.sub_zero, getElem!_pos _ t hs']
        rfl
      · rw [List.getElem?_take, if_neg ht', List.getElem?_eq_none (by simp; omega)]
    · show w.heap.size ≤ ((w.heap.modify g (onCells (putCells id 0 (flatK enc k d')))) ++ os).size
      simp
    · rw [hheap b hb', if_neg (fun e => hn e.symm)]
end

end Go.Proofs.Ytcmgfmpmapnckaa
