/- Walks of segment.Right and of the reference's Right. -/
import Derived.Test.YtcmgfmpmapnckaaSn
namespace Go.Proofs.Ytcmgfmpmapnckaa
open Go.RowKit
set_option linter.unusedVariables false
set_option linter.unusedSimpArgs false

/-- A segment. -/
structure Seg where
  sport : Int
  dport : Int
  seq : Int
  ack : Int
  flags : Int
  window : Int
  data : ByteArray

def Seg.cells (s : Seg) : Array Value := #[.int .i64 s.sport, .int .i64 s.dport, .int .u32 s.seq, .int .u32 s.ack, .int .i64 s.flags, .int .i64 s.window, .string s.data]

/-- Is it right? -/
def segRight (proto : Int) (s : Seg) : Prop :=
  (0 ≤ s.sport ∧ s.sport ≤ 65535) ∧ (0 ≤ s.dport ∧ s.dport ≤ 65535) ∧
  ((proto = 6 ∧ (0 ≤ s.flags ∧ s.flags ≤ 63) ∧ (0 ≤ s.window ∧ s.window ≤ 65535) ∧ s.data.size ≤ 65495) ∨
   (proto = 17 ∧ s.seq = 0 ∧ s.ack = 0 ∧ s.flags = 0 ∧ s.window = 0 ∧ s.data.size ≤ 65507))

/-- What both answer. -/
def RightPost (proto : Int) (s : Seg) (w : World) (e : Ending) (w' : World) : Prop :=
  (∃ r : Bool, e = .returned (.bool r) ∧ (r = true ↔ segRight proto s)) ∧ Foot (fun _ => False) w w'

def inB (n m : Int) : Bool := decide (0 ≤ n ∧ n ≤ m)

set_option maxHeartbeats 1000000 in
theorem segIn_any (n m : Int) (w : World) :
    Calls Try.prog 47 #[.int .i64 n, .int .i64 m] w fun e w' => e = .returned (.bool (inB n m)) ∧ w = w' := by
  by_cases h0 : 0 ≤ n
  · by_cases h1 : n ≤ m
    · have e : inB n m = true := by simp [inB, h0, h1]
      go_enter Try.func47, Try.ntmps47
      go_wp2
      go_ret
      exact ⟨by simp [e], rfl⟩
    · have e : inB n m = false := by simp [inB, h1]
      have h1' : decide (n ≤ m) = false := by simp [h1]
      go_enter Try.func47, Try.ntmps47
      go_wp2
      go_ret
      exact ⟨by simp [e], rfl⟩
  · have e : inB n m = false := by simp [inB, h0]
    have h1' : decide (0 ≤ n) = false := by simp [h0]
    go_enter Try.func47, Try.ntmps47
    go_wp2
    go_ret
    exact ⟨by simp [e], rfl⟩

theorem inB_yes {n m : Int} (h0 : 0 ≤ n) (h1 : n ≤ m) : inB n m = true := by simp [inB, h0, h1]
theorem inB_no {n m : Int} (h : ¬ (0 ≤ n ∧ n ≤ m)) : inB n m = false := by simp only [inB, h, decide_false]

set_option maxHeartbeats 4000000 in
set_option maxRecDepth 100000 in
theorem right_any (proto : Int) (s : Seg) (w : World) :
    Calls Try.prog 13 #[.int .i64 proto, .agg s.cells] w (RightPost proto s w) := by
  obtain ⟨sport, dport, seq, ack, flags, window, data⟩ := s
  unfold Seg.cells
  have hF : ∀ o, Foot (fun _ => False) w (w.alloc o) := fun o => Foot.alloc _ w o
  have HF := Lib.hid hF; clear hF
  simp only
  by_cases a1 : 0 ≤ sport ∧ sport ≤ 65535
  · have i_a1 := inB_yes a1.1 a1.2
    by_cases a2 : 0 ≤ dport ∧ dport ≤ 65535
    · have i_a2 := inB_yes a2.1 a2.2
      by_cases p6 : proto = 6
      · subst p6
        by_cases a3 : 0 ≤ flags ∧ flags ≤ 63
        · have i_a3 := inB_yes a3.1 a3.2
          by_cases a4 : 0 ≤ window ∧ window ≤ 65535
          · have i_a4 := inB_yes a4.1 a4.2
            have A0 := Lib.hid a1
            have A1 := Lib.hid a2
            have A2 := Lib.hid a3
            have A3 := Lib.hid a4
            clear a1 a2 a3 a4
            go_enter Try.func13, Try.ntmps13
            go_wp2_with (go_at_call 47; (with_reducible refine (segIn_any _ _ _).mono ?_); rintro e w' ⟨rfl, rfl⟩)
            go_ret
            refine ⟨⟨_, rfl, ?_⟩, HF.out _⟩
            have a0_ := A0.out
            have a1_ := A1.out
            have a2_ := A2.out
            have a3_ := A3.out
            first | (simp [segRight]; done) | (simp [segRight]; omega)
          · have i_a4 := inB_no a4
            have A0 := Lib.hid a1
            have A1 := Lib.hid a2
            have A2 := Lib.hid a3
            have A3 := Lib.hid a4
            clear a1 a2 a3 a4
            go_enter Try.func13, Try.ntmps13
            go_wp2_with (go_at_call 47; (with_reducible refine (segIn_any _ _ _).mono ?_); rintro e w' ⟨rfl, rfl⟩)
            go_ret
            refine ⟨⟨_, rfl, ?_⟩, HF.out _⟩
            have a0_ := A0.out
            have a1_ := A1.out
            have a2_ := A2.out
            have a3_ := A3.out
            first | (simp [segRight]; done) | (simp [segRight]; omega)
        · have i_a3 := inB_no a3
          have A0 := Lib.hid a1
          have A1 := Lib.hid a2
          have A2 := Lib.hid a3
          clear a1 a2 a3
          go_enter Try.func13, Try.ntmps13
          go_wp2_with (go_at_call 47; (with_reducible refine (segIn_any _ _ _).mono ?_); rintro e w' ⟨rfl, rfl⟩)
          go_ret
          refine ⟨⟨_, rfl, ?_⟩, HF.out _⟩
          have a0_ := A0.out
          have a1_ := A1.out
          have a2_ := A2.out
          first | (simp [segRight]; done) | (simp [segRight]; omega)
      · have i6 : (proto == 6) = false := by simp [p6]
        by_cases p17 : proto = 17
        · subst p17
          by_cases b3 : seq = 0
          · have i_b3 : (seq == 0) = true := by simp [b3]
            by_cases b4 : ack = 0
            · have i_b4 : (ack == 0) = true := by simp [b4]
              by_cases b5 : flags = 0
              · have i_b5 : (flags == 0) = true := by simp [b5]
                by_cases b6 : window = 0
                · have i_b6 : (window == 0) = true := by simp [b6]
                  have A0 := Lib.hid a1
                  have A1 := Lib.hid a2
                  have A2 := Lib.hid b3
                  have A3 := Lib.hid b4
                  have A4 := Lib.hid b5
                  have A5 := Lib.hid b6
                  clear a1 a2 b3 b4 b5 b6
                  go_enter Try.func13, Try.ntmps13
                  go_wp2_with (go_at_call 47; (with_reducible refine (segIn_any _ _ _).mono ?_); rintro e w' ⟨rfl, rfl⟩)
                  go_ret
                  refine ⟨⟨_, rfl, ?_⟩, HF.out _⟩
                  have a0_ := A0.out
                  have a1_ := A1.out
                  have a2_ := A2.out
                  have a3_ := A3.out
                  have a4_ := A4.out
                  have a5_ := A5.out
                  first | (simp [segRight]; done) | (simp [segRight]; omega)
                · have i_b6 : (window == 0) = false := by simp [b6]
                  have A0 := Lib.hid a1
                  have A1 := Lib.hid a2
                  have A2 := Lib.hid b3
                  have A3 := Lib.hid b4
                  have A4 := Lib.hid b5
                  have A5 := Lib.hid b6
                  clear a1 a2 b3 b4 b5 b6
                  go_enter Try.func13, Try.ntmps13
                  go_wp2_with (go_at_call 47; (with_reducible refine (segIn_any _ _ _).mono ?_); rintro e w' ⟨rfl, rfl⟩)
                  go_ret
                  refine ⟨⟨_, rfl, ?_⟩, HF.out _⟩
                  have a0_ := A0.out
                  have a1_ := A1.out
                  have a2_ := A2.out
                  have a3_ := A3.out
                  have a4_ := A4.out
                  have a5_ := A5.out
                  first | (simp [segRight]; done) | (simp [segRight]; omega)
              · have i_b5 : (flags == 0) = false := by simp [b5]
                have A0 := Lib.hid a1
                have A1 := Lib.hid a2
                have A2 := Lib.hid b3
                have A3 := Lib.hid b4
                have A4 := Lib.hid b5
                clear a1 a2 b3 b4 b5
                go_enter Try.func13, Try.ntmps13
                go_wp2_with (go_at_call 47; (with_reducible refine (segIn_any _ _ _).mono ?_); rintro e w' ⟨rfl, rfl⟩)
                go_ret
                refine ⟨⟨_, rfl, ?_⟩, HF.out _⟩
                have a0_ := A0.out
                have a1_ := A1.out
                have a2_ := A2.out
                have a3_ := A3.out
                have a4_ := A4.out
                first | (simp [segRight]; done) | (simp [segRight]; omega)
            · have i_b4 : (ack == 0) = false := by simp [b4]
              have A0 := Lib.hid a1
              have A1 := Lib.hid a2
              have A2 := Lib.hid b3
              have A3 := Lib.hid b4
              clear a1 a2 b3 b4
              go_enter Try.func13, Try.ntmps13
              go_wp2_with (go_at_call 47; (with_reducible refine (segIn_any _ _ _).mono ?_); rintro e w' ⟨rfl, rfl⟩)
              go_ret
              refine ⟨⟨_, rfl, ?_⟩, HF.out _⟩
              have a0_ := A0.out
              have a1_ := A1.out
              have a2_ := A2.out
              have a3_ := A3.out
              first | (simp [segRight]; done) | (simp [segRight]; omega)
          · have i_b3 : (seq == 0) = false := by simp [b3]
            have A0 := Lib.hid a1
            have A1 := Lib.hid a2
            have A2 := Lib.hid b3
            clear a1 a2 b3
            go_enter Try.func13, Try.ntmps13
            go_wp2_with (go_at_call 47; (with_reducible refine (segIn_any _ _ _).mono ?_); rintro e w' ⟨rfl, rfl⟩)
            go_ret
            refine ⟨⟨_, rfl, ?_⟩, HF.out _⟩
            have a0_ := A0.out
            have a1_ := A1.out
            have a2_ := A2.out
            first | (simp [segRight]; done) | (simp [segRight]; omega)
        · have i17 : (proto == 17) = false := by simp [p17]
          have A0 := Lib.hid a1
          have A1 := Lib.hid a2
          have A2 := Lib.hid p6
          have A3 := Lib.hid p17
          clear a1 a2 p6 p17
          go_enter Try.func13, Try.ntmps13
          go_wp2_with (go_at_call 47; (with_reducible refine (segIn_any _ _ _).mono ?_); rintro e w' ⟨rfl, rfl⟩)
          go_ret
          refine ⟨⟨_, rfl, ?_⟩, HF.out _⟩
          have a0_ := A0.out
          have a1_ := A1.out
          have a2_ := A2.out
          have a3_ := A3.out
          first | (simp [segRight]; done) | (simp [segRight]; omega)
    · have i_a2 := inB_no a2
      have A0 := Lib.hid a1
      have A1 := Lib.hid a2
      clear a1 a2
      go_enter Try.func13, Try.ntmps13
      go_wp2_with (go_at_call 47; (with_reducible refine (segIn_any _ _ _).mono ?_); rintro e w' ⟨rfl, rfl⟩)
      go_ret
      refine ⟨⟨_, rfl, ?_⟩, HF.out _⟩
      have a0_ := A0.out
      have a1_ := A1.out
      first | (simp [segRight]; done) | (simp [segRight]; omega)
  · have i_a1 := inB_no a1
    have A0 := Lib.hid a1
    clear a1
    go_enter Try.func13, Try.ntmps13
    go_wp2_with (go_at_call 47; (with_reducible refine (segIn_any _ _ _).mono ?_); rintro e w' ⟨rfl, rfl⟩)
    go_ret
    refine ⟨⟨_, rfl, ?_⟩, HF.out _⟩
    have a0_ := A0.out
    first | (simp [segRight]; done) | (simp [segRight]; omega)

set_option maxHeartbeats 4000000 in
set_option maxRecDepth 100000 in
theorem refRight_any (proto : Int) (s : Seg) (w : World) :
    Calls Try.prog 12 #[.int .i64 proto, .agg s.cells] w (RightPost proto s w) := by
  obtain ⟨sport, dport, seq, ack, flags, window, data⟩ := s
  unfold Seg.cells
  have hF : ∀ o, Foot (fun _ => False) w (w.alloc o) := fun o => Foot.alloc _ w o
  have HF := Lib.hid hF; clear hF
  simp only
  by_cases a1 : 0 ≤ sport
  · have i_a1 : decide (sport < 0) = false := by simp; omega
    by_cases a2 : sport ≤ 65535
    · have i_a2 : decide (65535 < sport) = false := by simp; omega
      by_cases a3 : 0 ≤ dport
      · have i_a3 : decide (dport < 0) = false := by simp; omega
        by_cases a4 : dport ≤ 65535
        · have i_a4 : decide (65535 < dport) = false := by simp; omega
          by_cases p6 : proto = 6
          · subst p6
            by_cases a5 : 0 ≤ flags
            · have i_a5 : decide (0 ≤ flags) = true := by simp; omega
              by_cases a6 : flags ≤ 63
              · have i_a6 : decide (flags ≤ 63) = true := by simp; omega
                by_cases a7 : 0 ≤ window
                · have i_a7 : decide (0 ≤ window) = true := by simp; omega
                  by_cases a8 : window ≤ 65535
                  · have i_a8 : decide (window ≤ 65535) = true := by simp; omega
                    have A0 := Lib.hid a1
                    have A1 := Lib.hid a2
                    have A2 := Lib.hid a3
                    have A3 := Lib.hid a4
                    have A4 := Lib.hid a5
                    have A5 := Lib.hid a6
                    have A6 := Lib.hid a7
                    have A7 := Lib.hid a8
                    clear a1 a2 a3 a4 a5 a6 a7 a8
                    go_enter Try.func12, Try.ntmps12
                    go_wp2
                    go_ret
                    refine ⟨⟨_, rfl, ?_⟩, HF.out _⟩
                    have a0_ := A0.out
                    have a1_ := A1.out
                    have a2_ := A2.out
                    have a3_ := A3.out
                    have a4_ := A4.out
                    have a5_ := A5.out
                    have a6_ := A6.out
                    have a7_ := A7.out
                    first | (simp [segRight]; done) | (simp [segRight]; omega)
                  · have i_a8 : decide (window ≤ 65535) = false := by simp; omega
                    have A0 := Lib.hid a1
                    have A1 := Lib.hid a2
                    have A2 := Lib.hid a3
                    have A3 := Lib.hid a4
                    have A4 := Lib.hid a5
                    have A5 := Lib.hid a6
                    have A6 := Lib.hid a7
                    have A7 := Lib.hid a8
                    clear a1 a2 a3 a4 a5 a6 a7 a8
                    go_enter Try.func12, Try.ntmps12
                    go_wp2
                    go_ret
                    refine ⟨⟨_, rfl, ?_⟩, HF.out _⟩
                    have a0_ := A0.out
                    have a1_ := A1.out
                    have a2_ := A2.out
                    have a3_ := A3.out
                    have a4_ := A4.out
                    have a5_ := A5.out
                    have a6_ := A6.out
                    have a7_ := A7.out
                    first | (simp [segRight]; done) | (simp [segRight]; omega)
                · have i_a7 : decide (0 ≤ window) = false := by simp; omega
                  have A0 := Lib.hid a1
                  have A1 := Lib.hid a2
                  have A2 := Lib.hid a3
                  have A3 := Lib.hid a4
                  have A4 := Lib.hid a5
                  have A5 := Lib.hid a6
                  have A6 := Lib.hid a7
                  clear a1 a2 a3 a4 a5 a6 a7
                  go_enter Try.func12, Try.ntmps12
                  go_wp2
                  go_ret
                  refine ⟨⟨_, rfl, ?_⟩, HF.out _⟩
                  have a0_ := A0.out
                  have a1_ := A1.out
                  have a2_ := A2.out
                  have a3_ := A3.out
                  have a4_ := A4.out
                  have a5_ := A5.out
                  have a6_ := A6.out
                  first | (simp [segRight]; done) | (simp [segRight]; omega)
              · have i_a6 : decide (flags ≤ 63) = false := by simp; omega
                have A0 := Lib.hid a1
                have A1 := Lib.hid a2
                have A2 := Lib.hid a3
                have A3 := Lib.hid a4
                have A4 := Lib.hid a5
                have A5 := Lib.hid a6
                clear a1 a2 a3 a4 a5 a6
                go_enter Try.func12, Try.ntmps12
                go_wp2
                go_ret
                refine ⟨⟨_, rfl, ?_⟩, HF.out _⟩
                have a0_ := A0.out
                have a1_ := A1.out
                have a2_ := A2.out
                have a3_ := A3.out
                have a4_ := A4.out
                have a5_ := A5.out
                first | (simp [segRight]; done) | (simp [segRight]; omega)
            · have i_a5 : decide (0 ≤ flags) = false := by simp; omega
              have A0 := Lib.hid a1
              have A1 := Lib.hid a2
              have A2 := Lib.hid a3
              have A3 := Lib.hid a4
              have A4 := Lib.hid a5
              clear a1 a2 a3 a4 a5
              go_enter Try.func12, Try.ntmps12
              go_wp2
              go_ret
              refine ⟨⟨_, rfl, ?_⟩, HF.out _⟩
              have a0_ := A0.out
              have a1_ := A1.out
              have a2_ := A2.out
              have a3_ := A3.out
              have a4_ := A4.out
              first | (simp [segRight]; done) | (simp [segRight]; omega)
          · have i6 : (proto == 6) = false := by simp [p6]
            by_cases p17 : proto = 17
            · subst p17
              by_cases b3 : seq = 0
              · have i_b3 : (seq == 0) = true := by simp [b3]
                by_cases b4 : ack = 0
                · have i_b4 : (ack == 0) = true := by simp [b4]
                  by_cases b5 : flags = 0
                  · have i_b5 : (flags == 0) = true := by simp [b5]
                    by_cases b6 : window = 0
                    · have i_b6 : (window == 0) = true := by simp [b6]
                      have A0 := Lib.hid a1
                      have A1 := Lib.hid a2
                      have A2 := Lib.hid a3
                      have A3 := Lib.hid a4
                      have A4 := Lib.hid b3
                      have A5 := Lib.hid b4
                      have A6 := Lib.hid b5
                      have A7 := Lib.hid b6
                      clear a1 a2 a3 a4 b3 b4 b5 b6
                      go_enter Try.func12, Try.ntmps12
                      go_wp2
                      go_ret
                      refine ⟨⟨_, rfl, ?_⟩, HF.out _⟩
                      have a0_ := A0.out
                      have a1_ := A1.out
                      have a2_ := A2.out
                      have a3_ := A3.out
                      have a4_ := A4.out
                      have a5_ := A5.out
                      have a6_ := A6.out
                      have a7_ := A7.out
                      first | (simp [segRight]; done) | (simp [segRight]; omega)
                    · have i_b6 : (window == 0) = false := by simp [b6]
                      have A0 := Lib.hid a1
                      have A1 := Lib.hid a2
                      have A2 := Lib.hid a3
                      have A3 := Lib.hid a4
                      have A4 := Lib.hid b3
                      have A5 := Lib.hid b4
                      have A6 := Lib.hid b5
                      have A7 := Lib.hid b6
                      clear a1 a2 a3 a4 b3 b4 b5 b6
                      go_enter Try.func12, Try.ntmps12
                      go_wp2
                      go_ret
                      refine ⟨⟨_, rfl, ?_⟩, HF.out _⟩
                      have a0_ := A0.out
                      have a1_ := A1.out
                      have a2_ := A2.out
                      have a3_ := A3.out
                      have a4_ := A4.out
                      have a5_ := A5.out
                      have a6_ := A6.out
                      have a7_ := A7.out
                      first | (simp [segRight]; done) | (simp [segRight]; omega)
                  · have i_b5 : (flags == 0) = false := by simp [b5]
                    have A0 := Lib.hid a1
                    have A1 := Lib.hid a2
                    have A2 := Lib.hid a3
                    have A3 := Lib.hid a4
                    have A4 := Lib.hid b3
                    have A5 := Lib.hid b4
                    have A6 := Lib.hid b5
                    clear a1 a2 a3 a4 b3 b4 b5
                    go_enter Try.func12, Try.ntmps12
                    go_wp2
                    go_ret
                    refine ⟨⟨_, rfl, ?_⟩, HF.out _⟩
                    have a0_ := A0.out
                    have a1_ := A1.out
                    have a2_ := A2.out
                    have a3_ := A3.out
                    have a4_ := A4.out
                    have a5_ := A5.out
                    have a6_ := A6.out
                    first | (simp [segRight]; done) | (simp [segRight]; omega)
                · have i_b4 : (ack == 0) = false := by simp [b4]
                  have A0 := Lib.hid a1
                  have A1 := Lib.hid a2
                  have A2 := Lib.hid a3
                  have A3 := Lib.hid a4
                  have A4 := Lib.hid b3
                  have A5 := Lib.hid b4
                  clear a1 a2 a3 a4 b3 b4
                  go_enter Try.func12, Try.ntmps12
                  go_wp2
                  go_ret
                  refine ⟨⟨_, rfl, ?_⟩, HF.out _⟩
                  have a0_ := A0.out
                  have a1_ := A1.out
                  have a2_ := A2.out
                  have a3_ := A3.out
                  have a4_ := A4.out
                  have a5_ := A5.out
                  first | (simp [segRight]; done) | (simp [segRight]; omega)
              · have i_b3 : (seq == 0) = false := by simp [b3]
                have A0 := Lib.hid a1
                have A1 := Lib.hid a2
                have A2 := Lib.hid a3
                have A3 := Lib.hid a4
                have A4 := Lib.hid b3
                clear a1 a2 a3 a4 b3
                go_enter Try.func12, Try.ntmps12
                go_wp2
                go_ret
                refine ⟨⟨_, rfl, ?_⟩, HF.out _⟩
                have a0_ := A0.out
                have a1_ := A1.out
                have a2_ := A2.out
                have a3_ := A3.out
                have a4_ := A4.out
                first | (simp [segRight]; done) | (simp [segRight]; omega)
            · have i17 : (proto == 17) = false := by simp [p17]
              have A0 := Lib.hid a1
              have A1 := Lib.hid a2
              have A2 := Lib.hid a3
              have A3 := Lib.hid a4
              have A4 := Lib.hid p6
              have A5 := Lib.hid p17
              clear a1 a2 a3 a4 p6 p17
              go_enter Try.func12, Try.ntmps12
              go_wp2
              go_ret
              refine ⟨⟨_, rfl, ?_⟩, HF.out _⟩
              have a0_ := A0.out
              have a1_ := A1.out
              have a2_ := A2.out
              have a3_ := A3.out
              have a4_ := A4.out
              have a5_ := A5.out
              first | (simp [segRight]; done) | (simp [segRight]; omega)
        · have i_a4 : decide (65535 < dport) = true := by simp; omega
          have A0 := Lib.hid a1
          have A1 := Lib.hid a2
          have A2 := Lib.hid a3
          have A3 := Lib.hid a4
          clear a1 a2 a3 a4
          go_enter Try.func12, Try.ntmps12
          go_wp2
          go_ret
          refine ⟨⟨_, rfl, ?_⟩, HF.out _⟩
          have a0_ := A0.out
          have a1_ := A1.out
          have a2_ := A2.out
          have a3_ := A3.out
          first | (simp [segRight]; done) | (simp [segRight]; omega)
      · have i_a3 : decide (dport < 0) = true := by simp; omega
        have A0 := Lib.hid a1
        have A1 := Lib.hid a2
        have A2 := Lib.hid a3
        clear a1 a2 a3
        go_enter Try.func12, Try.ntmps12
        go_wp2
        go_ret
        refine ⟨⟨_, rfl, ?_⟩, HF.out _⟩
        have a0_ := A0.out
        have a1_ := A1.out
        have a2_ := A2.out
        first | (simp [segRight]; done) | (simp [segRight]; omega)
    · have i_a2 : decide (65535 < sport) = true := by simp; omega
      have A0 := Lib.hid a1
      have A1 := Lib.hid a2
      clear a1 a2
      go_enter Try.func12, Try.ntmps12
      go_wp2
      go_ret
      refine ⟨⟨_, rfl, ?_⟩, HF.out _⟩
      have a0_ := A0.out
      have a1_ := A1.out
      first | (simp [segRight]; done) | (simp [segRight]; omega)
  · have i_a1 : decide (sport < 0) = true := by simp; omega
    have A0 := Lib.hid a1
    clear a1
    go_enter Try.func12, Try.ntmps12
    go_wp2
    go_ret
    refine ⟨⟨_, rfl, ?_⟩, HF.out _⟩
    have a0_ := A0.out
    first | (simp [segRight]; done) | (simp [segRight]; omega)
end Go.Proofs.Ytcmgfmpmapnckaa
