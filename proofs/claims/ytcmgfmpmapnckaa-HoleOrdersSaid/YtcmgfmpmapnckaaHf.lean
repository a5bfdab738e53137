/- The document's example of layer 19; pieces that came in. -/
import Derived.Test.YtcmgfmpmapnckaaHe
namespace Go.Proofs.Ytcmgfmpmapnckaa
open Go.Shelf Go.RowKit Go.Lib Go.Sort
set_option linter.unusedVariables false
set_option linter.unusedSimpArgs false

theorem BodyAt.new (w : World) : BodyAt w.heap.size (w.alloc (.cells #[.slice none 0 0, .int .i64 (-1)] 148)) w.heap.size (.slice none 0 0) #[] (-1) :=
  ⟨Nat.le_refl _, heap_alloc_new _ _, World.ownsRow_nil _ _ _ _, fun i hi => absurd hi (by simp), by omega, by omega, by simp⟩

def pcA : Pc := ⟨8, ⟨#[105, 106, 107, 108, 109, 110, 111, 112]⟩, false⟩
def pcB : Pc := ⟨0, ⟨#[97, 98, 99, 100, 101, 102, 103, 104]⟩, true⟩

theorem perm_arr {d : Array Pc} {l : List Pc} (h : d.toList = l) : d = l.toArray := by rw [← h]

theorem stepA {r : Int} {d : Array Pc} {e : Int} (h : AddStep #[] (-1) pcA r d e) : r = 0 ∧ d = #[pcA] ∧ e = 16 := by
  unfold AddStep at h
  rw [if_neg (by decide), if_neg (by decide), if_neg (by decide), if_neg (by decide)] at h
  obtain ⟨h1, h2, h3⟩ := h
  obtain ⟨hp, _⟩ := merged_perm (by rw [Array.size_push]) h3
  refine ⟨h1, perm_arr (l := [pcA]) (List.perm_singleton.1 hp), ?_⟩
  rw [h2, if_neg (by decide)]; decide

theorem sorted_pw {d : Array Pc} (h : SortedIn (ltOf cfP) 0 d.size d) : d.toList.Pairwise (fun x y => ltOf cfP y x = false) := by
  rw [List.pairwise_iff_getElem]
  intro i j hi hj hij
  have := h i j (Nat.zero_le _) hij (by simpa using hj)
  rw [getElem!_pos d i (by simpa using hi), getElem!_pos d j (by simpa using hj)] at this
  simpa using this

/-- A sorted list is the only one of its members that is strictly sorted. -/
theorem sorted_unique {d : Array Pc} {l : List Pc} (hs : SortedIn (ltOf cfP) 0 d.size d) (hp : d.toList.Perm l) (hl : l.Pairwise (fun x y => x.frm < y.frm)) : d.toList = l := by
  have h1 := sorted_pw hs
  have h2 : l.Pairwise (fun x y => ltOf cfP y x = false) := hl.imp fun {x y} hxy => by rw [ltP_false]; omega
  refine List.Perm.eq_of_pairwise (le := fun x y => ltOf cfP y x = false) ?_ h1 h2 hp
  intro a b ha hb hab hba
  have hm := hp.mem_iff.1 ha
  rw [ltP_false] at hab hba
  have hfr : a.frm = b.frm := by omega
  obtain ⟨i, hi, rfl⟩ := List.getElem_of_mem hm
  obtain ⟨j, hj, rfl⟩ := List.getElem_of_mem hb
  have hpw := List.pairwise_iff_getElem.1 hl
  rcases Nat.lt_trichotomy i j with h | h | h
  · have := hpw i j hi hj h; omega
  · subst h; rfl
  · have := hpw j i hj hi h; omega

theorem stepB {r : Int} {d : Array Pc} {e : Int} (h : AddStep #[pcA] 16 pcB r d e) : r = 0 ∧ d = #[pcB, pcA] ∧ e = 16 := by
  unfold AddStep at h
  have ho : ([pcA].any (ovl pcB)) = false := by
    simp only [List.any_cons, List.any_nil, Bool.or_false]
    unfold ovl
    rw [IntWalk.i64_in _ (by decide), IntWalk.i64_in _ (by decide)]
    decide
  rw [if_neg (by decide), if_neg (by decide), if_neg (by rw [show (#[pcA] : Array Pc).toList = [pcA] from rfl, ho]; decide), if_neg (by decide)] at h
  obtain ⟨h1, h2, h3⟩ := h
  obtain ⟨hp, hs⟩ := merged_perm (by rw [Array.size_push]) h3
  refine ⟨h1, perm_arr (l := [pcB, pcA]) (sorted_unique hs (hp.trans (List.Perm.swap _ _ _)) (by simp [pcA, pcB])), ?_⟩
  rw [h2, if_pos (by decide)]

set_option maxHeartbeats 4000000 in
theorem awake19 (w : World) : Calls Try.prog 32 #[] w fun e w' => e = .returned (.bool true) ∧ Below w.heap.size w w' := by
  have hN := new_any w
  have hB0 := BodyAt.new w
  have hF0 : Below w.heap.size w (w.alloc (.cells #[.slice none 0 0, .int .i64 (-1)] 148)) := (Below.refl _ _).alloc (Nat.le_refl _) _
  have hA := add_any pcA _ hB0 (by decide) (by decide)
  change Calls Try.prog 34 #[.pointer (some ⟨w.heap.size, 0, none⟩), .int .i64 8, .string ⟨#[105, 106, 107, 108, 109, 110, 111, 112]⟩, .bool false] _ _ at hA
  have HF := Lib.hid hF0
  clear hF0 hB0
  go_enter Try.func32, Try.ntmps32
  go_wp2_with (go_at_call 33; refine hN.mono ?_; rintro r w1 ⟨rfl, rfl⟩)
  refine hA.mono ?_
  rintro r w1 ⟨n1, v1, d1, e1, rfl, hs1, hb1, hbd1⟩
  obtain ⟨rfl, rfl, rfl⟩ := stepA hs1
  have HF1 := Lib.hid (HF.out.trans hb1)
  have hA2 := add_any pcB _ hbd1 (by decide) (by decide)
  change Calls Try.prog 34 #[.pointer (some ⟨w.heap.size, 0, none⟩), .int .i64 0, .string ⟨#[97, 98, 99, 100, 101, 102, 103, 104]⟩, .bool true] _ _ at hA2
  clear hA hb1 hs1 hN hbd1
  go_wp2_with fail
  refine hA2.mono ?_
  rintro r w2 ⟨n2, v2, d2, e2, rfl, hs2, hb2, hbd2⟩
  obtain ⟨rfl, rfl, rfl⟩ := stepB hs2
  have HF2 := Lib.hid (HF1.out.trans hb2)
  have hD := done_all _ hbd2 (by decide) (by decide)
  rw [show (⟨(catTo #[pcB, pcA] (#[pcB, pcA] : Array Pc).size).toArray⟩ : ByteArray) = ⟨#[97, 98, 99, 100, 101, 102, 103, 104, 105, 106, 107, 108, 109, 110, 111, 112]⟩ from rfl] at hD
  have hb0 := HF2.out.size
  clear hA2 hb2 hs2 hbd2 HF1
  go_wp2_with fail
  refine hD.mono ?_
  rintro r w3 ⟨rfl, hb3⟩
  have HF3 := Lib.hid (HF2.out.trans (hb3.mono hb0))
  clear hD hb3
  go_wp2
  go_ret
  exact ⟨ret_bool (by simp), HF3.out⟩

end Go.Proofs.Ytcmgfmpmapnckaa
