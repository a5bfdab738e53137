/- The reference's Ports, and the walk of the law SegmentParses. -/
import Derived.Test.YtcmgfmpmapnckaaSgN
namespace Go.Proofs.Ytcmgfmpmapnckaa
open Go.RowKit
set_option linter.unusedVariables false
set_option linter.unusedSimpArgs false

def RefPortsPost (x y : Int) (w : World) (e : Ending) (w' : World) : Prop :=
  e = .returned (.tuple #[.int .i64 x, .int .i64 y]) ∧ Below w.heap.size w w'

set_option maxHeartbeats 1000000 in
set_option maxRecDepth 100000 in
theorem refPorts_yes (proto : Int) (b : ByteArray) (w : World) (h : proto = 6 ∨ proto = 17) (hb : 8 ≤ b.size) (hmax : b.size ≤ 3000) :
    Calls Try.prog 18 #[.int .i64 proto, .string b] w (RefPortsPost (rnum (tl b 0) 2 : Nat) (rnum (tl b 2) 2 : Nat) w) := by
  have hl : ¬ (b.size : Int) < 8 := by omega
  rcases h with rfl | rfl
  all_goals
    go_enter Try.func18, Try.ntmps18
    go_wp2_with (fail)
    refine (refShort_ft b 0 _ rfl _ (by omega) hmax).mono ?_
    rintro e w2 ⟨rfl, hf2⟩
    go_wp2_with (fail)
    refine (refShort_ft b 2 _ rfl _ (by omega) hmax).mono ?_
    rintro e w3 ⟨rfl, hf3⟩
    have hbel : Below w.heap.size w w3 := (hf2.trans hf3).below
    clear hf2 hf3
    go_wp2
    go_ret2
    exact ⟨rfl, hbel⟩

set_option maxHeartbeats 1000000 in
set_option maxRecDepth 100000 in
theorem refPorts_no (proto : Int) (b : ByteArray) (w : World) (h : ¬ ((proto = 6 ∨ proto = 17) ∧ 8 ≤ b.size)) :
    Calls Try.prog 18 #[.int .i64 proto, .string b] w (RefPortsPost (-1) (-1) w) := by
  by_cases p6 : proto = 6
  · have hl : (b.size : Int) < 8 := by
      have : ¬ 8 ≤ b.size := fun hb => h ⟨.inl p6, hb⟩
      omega
    subst p6
    clear h
    go_enter Try.func18, Try.ntmps18
    go_wp2
    go_ret2
    exact ⟨rfl, Below.refl _ _⟩
  · by_cases p17 : proto = 17
    · have hl : (b.size : Int) < 8 := by
        have : ¬ 8 ≤ b.size := fun hb => h ⟨.inr p17, hb⟩
        omega
      subst p17
      clear h
      go_enter Try.func18, Try.ntmps18
      go_wp2
      go_ret2
      exact ⟨rfl, Below.refl _ _⟩
    · have p3 : (proto != 6) = true := by simp [p6]
      have p4 : (proto != 17) = true := by simp [p17]
      clear h p6 p17
      go_enter Try.func18, Try.ntmps18
      go_wp2
      go_ret2
      exact ⟨rfl, Below.refl _ _⟩

theorem refParse_any (proto : Int) (src dst : Nat) (b : ByteArray) (w : World) (hsrc : src < 4294967296) (hdst : dst < 4294967296) (hmax : b.size ≤ 3000) :
    Calls Try.prog 16 #[.int .i64 proto, .int .u32 src, .int .u32 dst, .string b] w (RefParsePost proto src dst b w) := by
  by_cases p6 : proto = 6
  · subst p6
    by_cases h : b.size < 20
    · exact refParse_small6 src dst b w hsrc hdst hmax h
    · exact refParse_tcp src dst b w hsrc hdst hmax (by omega)
  · by_cases p17 : proto = 17
    · subst p17
      by_cases h : b.size < 8
      · exact refParse_small17 src dst b w hsrc hdst hmax h
      · exact refParse_udp src dst b w hsrc hdst hmax (by omega)
    · exact refParse_no proto src dst b w p6 p17

set_option maxHeartbeats 1000000 in
set_option maxRecDepth 100000 in
theorem sparses_long (proto : Int) (src dst : Nat) (b : ByteArray) (w : World) (h : 3000 < b.size) :
    Calls Try.prog 5 #[.int .i64 proto, .int .u32 src, .int .u32 dst, .string b] w (TruePost w) := by
  have h1 : (3000 : Int) < b.size := by omega
  clear h
  go_enter Try.func5, Try.ntmps5
  go_wp2_with (go_at_call 10; (with_reducible refine (awake6 _).mono ?_); rintro e w1 ⟨rfl, hf⟩)
  go_ret
  exact ⟨rfl, hf⟩

set_option maxHeartbeats 2000000 in
set_option maxRecDepth 100000 in
/-- The law's body, over what the ports are. -/
theorem sparses_with (proto : Int) (src dst : Nat) (b : ByteArray) (w : World) (hsrc : src < 4294967296) (hdst : dst < 4294967296) (hmax : b.size ≤ 3000)
    (x y x' y' : Int) (ok : Bool) (hp : ∀ w, Calls Try.prog 17 #[.int .i64 proto, .string b] w (PortsPost x y ok w)) (hq : ∀ w, Calls Try.prog 18 #[.int .i64 proto, .string b] w (RefPortsPost x' y' w))
    (hx : (if x' ≤ 0 then 0 else x') = x) (hy : (if y' ≤ 0 then 0 else y') = y) (hok : ok = decide (0 ≤ x')) :
    Calls Try.prog 5 #[.int .i64 proto, .int .u32 src, .int .u32 dst, .string b] w (TruePost w) := by
  have h1 : ¬ (3000 : Int) < b.size := by omega
  have EP := Lib.hid (fun w => parse_any proto src dst b w hsrc hdst (by unfold maxLen; omega))
  have ER := Lib.hid (fun w => refParse_any proto src dst b w hsrc hdst hmax)
  have HP := Lib.hid hp; clear hp
  have HQ := Lib.hid hq; clear hq
  have HX := Lib.hid (And.intro hx (And.intro hy hok)); clear hx hy hok
  go_enter Try.func5, Try.ntmps5
  go_wp2_with (fail)
  refine (EP.out _).mono ?_
  rintro e w1 ⟨rfl, hf1⟩
  obtain ⟨s0, s1, s2, s3, s4, s5, s6, hsg0⟩ : ∃ s0 s1 s2 s3 s4 s5 s6, parseSeg proto src dst b = ⟨s0, s1, s2, s3, s4, s5, s6⟩ := ⟨_, _, _, _, _, _, _, rfl⟩
  obtain ⟨code, hcode⟩ : ∃ c, parseCode proto src dst b = c := ⟨_, rfl⟩
  rw [hsg0, hcode]
  have HSG := Lib.hid hsg0; clear hsg0
  have HCO := Lib.hid hcode; clear hcode
  unfold Seg.cells
  simp only
  go_wp2_with (fail)
  have hb1 := blk_new w1 (.cells #[.int .i64 s0, .int .i64 s1, .int .u32 s2, .int .u32 s3, .int .i64 s4, .int .i64 s5, .string s6] 24)
  have hl1 := hf1.alloc hf1.size (.cells #[.int .i64 s0, .int .i64 s1, .int .u32 s2, .int .u32 s3, .int .i64 s4, .int .i64 s5, .string s6] 24)
  have hz1 : w1.heap.size < (w1.alloc (.cells #[.int .i64 s0, .int .i64 s1, .int .u32 s2, .int .u32 s3, .int .i64 s4, .int .i64 s5, .string s6] 24)).heap.size := by simp
  clear hf1
  generalize w1.alloc (.cells #[.int .i64 s0, .int .i64 s1, .int .u32 s2, .int .u32 s3, .int .i64 s4, .int .i64 s5, .string s6] 24) = w2 at *
  generalize w1.heap.size = b1 at *
  refine (ER.out _).mono ?_
  rintro e w3 ⟨rfl, hf3⟩
  rw [HSG.out, HCO.out]
  have hb3 := (hf3.block b1 hz1).trans hb1
  have hl3 := hl1.trans (hf3.mono hl1.size)
  have hz3 := Nat.lt_of_lt_of_le hz1 hf3.size
  clear hf3 hl1 hz1 hb1
  unfold Seg.cells
  simp only
  go_wp2_with (fail)
  have hb4 := blk_alloc hb3 (.cells #[.int .i64 s0, .int .i64 s1, .int .u32 s2, .int .u32 s3, .int .i64 s4, .int .i64 s5, .string s6] 24)
  have hc4 := blk_new w3 (.cells #[.int .i64 s0, .int .i64 s1, .int .u32 s2, .int .u32 s3, .int .i64 s4, .int .i64 s5, .string s6] 24)
  have hl4 := hl3.alloc hl3.size (.cells #[.int .i64 s0, .int .i64 s1, .int .u32 s2, .int .u32 s3, .int .i64 s4, .int .i64 s5, .string s6] 24)
  have hz4 : w3.heap.size < (w3.alloc (.cells #[.int .i64 s0, .int .i64 s1, .int .u32 s2, .int .u32 s3, .int .i64 s4, .int .i64 s5, .string s6] 24)).heap.size := by simp
  clear hl3 hb3
  generalize w3.alloc (.cells #[.int .i64 s0, .int .i64 s1, .int .u32 s2, .int .u32 s3, .int .i64 s4, .int .i64 s5, .string s6] 24) = w4 at *
  generalize w3.heap.size = b3 at *
  refine (HP.out _).mono ?_
  rintro e w5 ⟨rfl, hf5⟩
  have hb5 := (hf5.block b1 (by omega)).trans hb4
  have hc5 := (hf5.block b3 hz4).trans hc4
  have hl5 := hl4.trans (hf5.mono hl4.size)
  have hz5 := Nat.lt_of_lt_of_le hz4 hf5.size
  clear hf5 hl4 hb4 hc4 hz4
  have HB5 := Lib.hid hb5; clear hb5
  have HC5 := Lib.hid hc5; clear hc5
  go_wp2_with (fail)
  refine (HQ.out _).mono ?_
  rintro e w6 ⟨rfl, hf6⟩
  have hb6 := (hf6.block b1 (by omega)).trans HB5.out
  have hc6 := (hf6.block b3 hz5).trans HC5.out
  have hl6 := hl5.trans (hf6.mono hl5.size)
  clear hf6 hl5 HB5 HC5 hz5 hz3
  obtain ⟨d0, d1, d2, d3, d4, d5, d6⟩ := cells7 hb6
  obtain ⟨e0, e1, e2, e3, e4, e5, e6⟩ := cells7 hc6
  clear hb6 hc6
  have HL := Lib.hid hl6; clear hl6
  obtain ⟨hx, hy, hok⟩ := HX.out
  clear HX EP ER HP HQ HSG HCO
  subst hok
  go_wp2_with (go_at_call 10; (with_reducible refine (awake6 _).mono ?_); rintro e w7 ⟨rfl, hf7⟩)
  all_goals first
    | (go_ret; exact ⟨rfl, HL.out.trans (hf7.mono HL.out.size)⟩)
    | (exfalso; split at hx <;> split at hy <;> omega)

/-- The law SegmentParses: whatever comes, it is true. -/
theorem sparses_any (proto : Int) (src dst : Nat) (b : ByteArray) (w : World) (hsrc : src < 4294967296) (hdst : dst < 4294967296) :
    Calls Try.prog 5 #[.int .i64 proto, .int .u32 src, .int .u32 dst, .string b] w (TruePost w) := by
  by_cases hl : 3000 < b.size
  · exact sparses_long proto src dst b w hl
  · have hmax : b.size ≤ 3000 := by omega
    by_cases hp : (proto = 6 ∨ proto = 17) ∧ 8 ≤ b.size
    · refine sparses_with proto src dst b w hsrc hdst hmax _ _ _ _ true (fun w => ports_yes proto b w hp.1 hp.2 (by unfold maxLen; omega)) (fun w => refPorts_yes proto b w hp.1 hp.2 hmax) ?_ ?_ ?_
      · split <;> omega
      · split <;> omega
      · simp
    · exact sparses_with proto src dst b w hsrc hdst hmax _ _ _ _ false (fun w => ports_no proto b w hp) (fun w => refPorts_no proto b w hp) (by decide) (by decide) (by decide)

end Go.Proofs.Ytcmgfmpmapnckaa
