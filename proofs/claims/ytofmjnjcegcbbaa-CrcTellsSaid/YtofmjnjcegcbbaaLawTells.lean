/- The walk of CrcTells. -/
import Derived.Test.YtofmjnjcegcbbaaLaws
import Derived.Test.YtofmjnjcegcbbaaRef3
namespace Go.Proofs.Ytofmjnjcegcbbaa.Crc
open Go.RowKit CrcMath

def G3 (s : BitVec 32) (A : Option Addr) (n c : Nat) (l : List Int) (A6 : Option Addr) (m6 c6 : Nat) (A8 : Option Addr) (m8 c8 : Nat) (li : List Int) (q : Bool) : Nat → Value → World → Prop
  | 0 => fun v _ => v = .bool true
  | 1 => fun v _ => v = .bool true
  | 2 => fun v _ => v = .slice A n c
  | 3 => fun v _ => v = .int .u32 (N (more 0#32 l))
  | 4 => fun v _ => v = .slice A n c
  | 5 => fun v _ => v = .int .u32 (N (more 0#32 l))
  | 6 => fun v _ => v = .bool true
  | 7 => fun v _ => v = .bool true
  | 8 => fun v _ => v = .bool true
  | 9 => fun v _ => v = .int .u32 (N s)
  | 10 => fun v _ => v = .slice A n c
  | 11 => fun v _ => v = .int .u32 (N (more s l))
  | 12 => fun v _ => v = .int .u32 (N s)
  | 13 => fun v _ => v = .slice A n c
  | 14 => fun v _ => v = .int .u32 (N (more s l))
  | 15 => fun v _ => v = .bool true
  | 16 => fun v _ => v = .bool true
  | 17 => fun v _ => v = .bool true
  | 18 => fun v _ => v = .slice A n c
  | 19 => fun v w => ∃ A1 c1, v = .slice A1 (n + 4) c1 ∧ Rd w .u8 A1 (n + 4) c1 (shut l)
  | 20 => fun v _ => v = .string (strOfNums (shut l))
  | 21 => fun v _ => v = .slice A n c
  | 22 => fun v w => ∃ A1 c1, v = .slice A1 (n + 4) c1 ∧ Rd w .u8 A1 (n + 4) c1 (shut l)
  | 23 => fun v _ => v = .string (strOfNums (shut l))
  | 24 => fun v _ => v = .bool true
  | 25 => fun v _ => v = .bool true
  | 26 => fun v _ => v = .bool true
  | 27 => fun v _ => v = .slice A6 m6 c6
  | 28 => fun v _ => v = .string (strOfNums li)
  | 29 => fun v _ => v = .slice A8 m8 c8
  | 30 => fun v _ => v = .string (strOfNums li)
  | 31 => fun v _ => v = .bool true
  | 32 => fun v _ => v = .bool true
  | 33 => fun v _ => v = .bool true
  | 34 => fun v _ => v = .bool q
  | 35 => fun v _ => v = .bool q
  | 36 => fun v _ => v = .bool true
  | 37 => fun v _ => v = .bool true
  | 38 => fun v _ => v = .bool true
  | _ => fun _ _ => True
theorem G3_stable (s : BitVec 32) (A : Option Addr) (n c : Nat) (l : List Int) (A6 : Option Addr) (m6 c6 : Nat) (A8 : Option Addr) (m8 c8 : Nat) (li : List Int) (q : Bool) : ∀ i v w w', G3 s A n c l A6 m6 c6 A8 m8 c8 li q i v w → Below w.heap.size w w' → G3 s A n c l A6 m6 c6 A8 m8 c8 li q i v w' := by
  intro i v w w' h hb
  match i, h with
  | 0, h => exact h
  | 1, h => exact h
  | 2, h => exact h
  | 3, h => exact h
  | 4, h => exact h
  | 5, h => exact h
  | 6, h => exact h
  | 7, h => exact h
  | 8, h => exact h
  | 9, h => exact h
  | 10, h => exact h
  | 11, h => exact h
  | 12, h => exact h
  | 13, h => exact h
  | 14, h => exact h
  | 15, h => exact h
  | 16, h => exact h
  | 17, h => exact h
  | 18, h => exact h
  | 19, h => exact (by obtain ⟨A1, c1, e, hr⟩ := h; exact ⟨A1, c1, e, hr.below hb⟩)
  | 20, h => exact h
  | 21, h => exact h
  | 22, h => exact (by obtain ⟨A1, c1, e, hr⟩ := h; exact ⟨A1, c1, e, hr.below hb⟩)
  | 23, h => exact h
  | 24, h => exact h
  | 25, h => exact h
  | 26, h => exact h
  | 27, h => exact h
  | 28, h => exact h
  | 29, h => exact h
  | 30, h => exact h
  | 31, h => exact h
  | 32, h => exact h
  | 33, h => exact h
  | 34, h => exact h
  | 35, h => exact h
  | 36, h => exact h
  | 37, h => exact h
  | 38, h => exact h
  | _ + 39, _ => exact trivial
/-- Open's rows, told by what they read. -/
theorem open_reads {f : FuncId} (A : Option Addr) (n c : Nat) (l : List Int) (w : World) (h : Calls Try.prog f #[.slice A n c] w (OpenPost w (opens l) (inner l))) :
    Calls Try.prog f #[.slice A n c] w fun e w' => (∃ A2 m c2, e = .returned (.tuple #[.slice A2 m c2, .bool (opens l)]) ∧ Rd w' .u8 A2 m c2 (inner l)) ∧ Below w.heap.size w w' := by
  refine h.mono ?_
  rintro e w' ⟨⟨v, m, rfl, hown⟩, hb⟩
  obtain ⟨A2, c2, rfl, hr2, _⟩ := hown.rd
  exact ⟨⟨A2, m, c2, rfl, hr2⟩, hb⟩
set_option maxHeartbeats 8000000 in
set_option maxRecDepth 100000 in
theorem CrcTells_walk (s0 : Int) (A : Option Addr) (n c : Nat) (zs : List Int) (w : World) (hs : (Lit.int .u32 s0).wf = true) (hz : IsRow .u8 w A n c zs) (_ : n * 1 ≤ 140737488351232) :
    Calls Try.prog 3 #[.int .u32 s0, .slice A n c] w fun e w' => e = .returned (.bool true) ∧ Below w.heap.size w w' := by
  have hr := hz.rd
  have hb := hz.bytes
  obtain ⟨l, hl⟩ : ∃ l, l = zs.take n := ⟨_, rfl⟩
  rw [← hl] at hr hb
  have hs2 := bounds_u32 hs
  obtain ⟨s, rfl⟩ : ∃ x, s0 = N x := ⟨_, (N_of (by omega) (by omega)).symm⟩
  have hn9 := Nat.le_trans hr.le hr.small
  have R0 := Lib.hid hr
  have Y := Lib.hid hb
  clear hz hl hr hb hs hs2
  by_cases h9 : (9000 : Int) < n
  · have hd : decide ((9000 : Int) < n) = true := decide_eq_true h9
    have hd2 : decide (9000 < n) = true := decide_eq_true (by omega)
    go_enter Try.func3, Try.ntmps3
    go_wp2_with fail
    refine (head_any _).mono ?_
    rintro e w1 ⟨rfl, hb1⟩
    go_wp2
    go_ret
    exact ⟨rfl, hb1⟩
  · have hd : decide ((9000 : Int) < n) = false := decide_eq_false h9
    have hd2 : decide (9000 < n) = false := decide_eq_false (by omega)
    obtain ⟨q, hq⟩ : ∃ q, q = opens l := ⟨_, rfl⟩
    obtain ⟨li, hli⟩ : ∃ li, li = inner l := ⟨_, rfl⟩
    have HQ := Lib.hid hq
    have HLI := Lib.hid hli
    clear hq hli
    have hn : n ≤ 1000000 := by omega
    go_enter Try.func3, Try.ntmps3
    go_wp2_with fail
    refine (head_any _).mono ?_
    rintro e w1 ⟨rfl, hb1⟩
    have B1 := Lib.hid hb1
    clear hb1
    go_wp2_with fail
    refine (open_reads A n c l _ (open_any A n c l _ (R0.out.below B1.out) Y.out hn)).mono ?_
    rintro e w2 ⟨⟨A6, m6, c6, rfl, hr6⟩, hb2⟩
    rw [← HQ.out]
    rw [← HLI.out] at hr6
    have B2 := Lib.hid (below_trans B1.out hb2 B1.out.size)
    have R6' := Lib.hid hr6
    clear hb2 hr6
    go_wp2_with fail
    refine (open_reads A n c l _ (refopen_any A n c l _ (R0.out.below B2.out) Y.out hn)).mono ?_
    rintro e w3 ⟨⟨A8, m8, c8, rfl, hr8⟩, hb3⟩
    rw [← HQ.out]
    rw [← HLI.out] at hr8
    have B3 := Lib.hid (below_trans B2.out hb3 B2.out.size)
    have R6 := Lib.hid (R6'.out.below hb3)
    have R8 := Lib.hid hr8
    have R := Lib.hid (R0.out.below B3.out)
    clear hb3 hr8
    go_wp2_with fail
    refine Flow.wp_region_flow (by kernel_rfl) (G3 s A n c l A6 m6 c6 A8 m8 c8 li q) (by kernel_rfl) (G3_stable s A n c l A6 m6 c6 A8 m8 c8 li q) ?loc ?fin
    case loc =>
      intro i o ho a w hw hk
      match i, ho with
      | 0, ho =>
        have ho2 := Option.some.inj ho; clear ho; subst ho2
        have r5 : a.tmps.getD 5 undef = .bool true := (hk 5 (Flow.mem_looks (by kernel_rfl))).before (by kernel_rfl)
        rw [if_pos (Flow.wanted_free rfl _)]
        refine Flow.step_value (v := .bool true) ?_ ⟨Below.refl _ _, rfl⟩
        simp [execOp, Act.eval, r5, go_sem]
      | 1, ho =>
        have ho2 := Option.some.inj ho; clear ho; subst ho2
        have r25 : a.tmps.getD 25 undef = .bool true := (hk 25 (Flow.mem_looks (by kernel_rfl))).by_ 0 (by kernel_rfl) (by decide)
        rw [if_pos (Flow.wanted_free rfl _)]
        refine Flow.step_value (v := .bool true) ?_ ⟨Below.refl _ _, rfl⟩
        simp [execOp, Act.eval, r25, go_sem]
      | 2, ho =>
        have ho2 := Option.some.inj ho; clear ho; subst ho2
        have r1 : a.tmps.getD 1 undef = .slice A n c := (hk 1 (Flow.mem_looks (by kernel_rfl))).before (by kernel_rfl)
        have r26 : a.tmps.getD 26 undef = .bool true := (hk 26 (Flow.mem_looks (by kernel_rfl))).by_ 1 (by kernel_rfl) (by decide)
        rw [if_pos (Flow.wanted_by (t := 26) rfl (by kernel_rfl) r26)]
        refine Flow.step_value (v := .slice A n c) ?_ ⟨Below.refl _ _, rfl⟩
        simp [execOp, Act.eval, r1, go_sem]
      | 3, ho =>
        have ho2 := Option.some.inj ho; clear ho; subst ho2
        have r27 : a.tmps.getD 27 undef = .slice A n c := (hk 27 (Flow.mem_looks (by kernel_rfl))).by_ 2 (by kernel_rfl) (by decide)
        have r26 : a.tmps.getD 26 undef = .bool true := (hk 26 (Flow.mem_looks (by kernel_rfl))).by_ 1 (by kernel_rfl) (by decide)
        rw [if_pos (Flow.wanted_by (t := 26) rfl (by kernel_rfl) r26)]
        refine Flow.step_call (f := 12) (args := #[.slice A n c]) (by simp [execOp, Act.eval, r27, go_sem]) ?_
        refine (of_any A n c l _ (R.out.below hw) Y.out).mono ?_
        rintro e w1 ⟨rfl, hb1⟩
        exact ⟨_, rfl, hb1, rfl⟩
      | 4, ho =>
        have ho2 := Option.some.inj ho; clear ho; subst ho2
        have r1 : a.tmps.getD 1 undef = .slice A n c := (hk 1 (Flow.mem_looks (by kernel_rfl))).before (by kernel_rfl)
        have r26 : a.tmps.getD 26 undef = .bool true := (hk 26 (Flow.mem_looks (by kernel_rfl))).by_ 1 (by kernel_rfl) (by decide)
        rw [if_pos (Flow.wanted_by (t := 26) rfl (by kernel_rfl) r26)]
        refine Flow.step_value (v := .slice A n c) ?_ ⟨Below.refl _ _, rfl⟩
        simp [execOp, Act.eval, r1, go_sem]
      | 5, ho =>
        have ho2 := Option.some.inj ho; clear ho; subst ho2
        have r29 : a.tmps.getD 29 undef = .slice A n c := (hk 29 (Flow.mem_looks (by kernel_rfl))).by_ 4 (by kernel_rfl) (by decide)
        have r26 : a.tmps.getD 26 undef = .bool true := (hk 26 (Flow.mem_looks (by kernel_rfl))).by_ 1 (by kernel_rfl) (by decide)
        rw [if_pos (Flow.wanted_by (t := 26) rfl (by kernel_rfl) r26)]
        refine Flow.step_call (f := 13) (args := #[.slice A n c]) (by simp [execOp, Act.eval, r29, go_sem]) ?_
        refine (refof_any A n c l _ (R.out.below hw) Y.out hn).mono ?_
        rintro e w1 ⟨rfl, rfl⟩
        exact ⟨_, rfl, Below.refl _ _, rfl⟩
      | 6, ho =>
        have ho2 := Option.some.inj ho; clear ho; subst ho2
        have r28 : a.tmps.getD 28 undef = .int .u32 (N (more 0#32 l)) := (hk 28 (Flow.mem_looks (by kernel_rfl))).by_ 3 (by kernel_rfl) (by decide)
        have r30 : a.tmps.getD 30 undef = .int .u32 (N (more 0#32 l)) := (hk 30 (Flow.mem_looks (by kernel_rfl))).by_ 5 (by kernel_rfl) (by decide)
        have r26 : a.tmps.getD 26 undef = .bool true := (hk 26 (Flow.mem_looks (by kernel_rfl))).by_ 1 (by kernel_rfl) (by decide)
        rw [if_pos (Flow.wanted_by (t := 26) rfl (by kernel_rfl) r26)]
        refine Flow.step_value (v := .bool true) ?_ ⟨Below.refl _ _, rfl⟩
        simp [execOp, Act.eval, r28, r30, go_sem]
      | 7, ho =>
        have ho2 := Option.some.inj ho; clear ho; subst ho2
        have r26 : a.tmps.getD 26 undef = .bool true := (hk 26 (Flow.mem_looks (by kernel_rfl))).by_ 1 (by kernel_rfl) (by decide)
        have r31 : a.tmps.getD 31 undef = .bool true := (hk 31 (Flow.mem_looks (by kernel_rfl))).by_ 6 (by kernel_rfl) (by decide)
        rw [if_pos (Flow.wanted_free rfl _)]
        refine Flow.step_value (v := .bool true) ?_ ⟨Below.refl _ _, rfl⟩
        simp [execOp, Act.eval, r26, r31, go_sem]
      | 8, ho =>
        have ho2 := Option.some.inj ho; clear ho; subst ho2
        have r32 : a.tmps.getD 32 undef = .bool true := (hk 32 (Flow.mem_looks (by kernel_rfl))).by_ 7 (by kernel_rfl) (by decide)
        rw [if_pos (Flow.wanted_free rfl _)]
        refine Flow.step_value (v := .bool true) ?_ ⟨Below.refl _ _, rfl⟩
        simp [execOp, Act.eval, r32, go_sem]
      | 9, ho =>
        have ho2 := Option.some.inj ho; clear ho; subst ho2
        have r0 : a.tmps.getD 0 undef = .int .u32 (N s) := (hk 0 (Flow.mem_looks (by kernel_rfl))).before (by kernel_rfl)
        have r33 : a.tmps.getD 33 undef = .bool true := (hk 33 (Flow.mem_looks (by kernel_rfl))).by_ 8 (by kernel_rfl) (by decide)
        rw [if_pos (Flow.wanted_by (t := 33) rfl (by kernel_rfl) r33)]
        refine Flow.step_value (v := .int .u32 (N s)) ?_ ⟨Below.refl _ _, rfl⟩
        simp [execOp, Act.eval, r0, go_sem]
      | 10, ho =>
        have ho2 := Option.some.inj ho; clear ho; subst ho2
        have r1 : a.tmps.getD 1 undef = .slice A n c := (hk 1 (Flow.mem_looks (by kernel_rfl))).before (by kernel_rfl)
        have r33 : a.tmps.getD 33 undef = .bool true := (hk 33 (Flow.mem_looks (by kernel_rfl))).by_ 8 (by kernel_rfl) (by decide)
        rw [if_pos (Flow.wanted_by (t := 33) rfl (by kernel_rfl) r33)]
        refine Flow.step_value (v := .slice A n c) ?_ ⟨Below.refl _ _, rfl⟩
        simp [execOp, Act.eval, r1, go_sem]
      | 11, ho =>
        have ho2 := Option.some.inj ho; clear ho; subst ho2
        have r34 : a.tmps.getD 34 undef = .int .u32 (N s) := (hk 34 (Flow.mem_looks (by kernel_rfl))).by_ 9 (by kernel_rfl) (by decide)
        have r35 : a.tmps.getD 35 undef = .slice A n c := (hk 35 (Flow.mem_looks (by kernel_rfl))).by_ 10 (by kernel_rfl) (by decide)
        have r33 : a.tmps.getD 33 undef = .bool true := (hk 33 (Flow.mem_looks (by kernel_rfl))).by_ 8 (by kernel_rfl) (by decide)
        rw [if_pos (Flow.wanted_by (t := 33) rfl (by kernel_rfl) r33)]
        refine Flow.step_call (f := 14) (args := #[.int .u32 (N s), .slice A n c]) (by simp [execOp, Act.eval, r34, r35, go_sem]) ?_
        refine (more_any s A n c l _ (R.out.below hw) Y.out).mono ?_
        rintro e w1 ⟨rfl, hb1⟩
        exact ⟨_, rfl, hb1, rfl⟩
      | 12, ho =>
        have ho2 := Option.some.inj ho; clear ho; subst ho2
        have r0 : a.tmps.getD 0 undef = .int .u32 (N s) := (hk 0 (Flow.mem_looks (by kernel_rfl))).before (by kernel_rfl)
        have r33 : a.tmps.getD 33 undef = .bool true := (hk 33 (Flow.mem_looks (by kernel_rfl))).by_ 8 (by kernel_rfl) (by decide)
        rw [if_pos (Flow.wanted_by (t := 33) rfl (by kernel_rfl) r33)]
        refine Flow.step_value (v := .int .u32 (N s)) ?_ ⟨Below.refl _ _, rfl⟩
        simp [execOp, Act.eval, r0, go_sem]
      | 13, ho =>
        have ho2 := Option.some.inj ho; clear ho; subst ho2
        have r1 : a.tmps.getD 1 undef = .slice A n c := (hk 1 (Flow.mem_looks (by kernel_rfl))).before (by kernel_rfl)
        have r33 : a.tmps.getD 33 undef = .bool true := (hk 33 (Flow.mem_looks (by kernel_rfl))).by_ 8 (by kernel_rfl) (by decide)
        rw [if_pos (Flow.wanted_by (t := 33) rfl (by kernel_rfl) r33)]
        refine Flow.step_value (v := .slice A n c) ?_ ⟨Below.refl _ _, rfl⟩
        simp [execOp, Act.eval, r1, go_sem]
      | 14, ho =>
        have ho2 := Option.some.inj ho; clear ho; subst ho2
        have r37 : a.tmps.getD 37 undef = .int .u32 (N s) := (hk 37 (Flow.mem_looks (by kernel_rfl))).by_ 12 (by kernel_rfl) (by decide)
        have r38 : a.tmps.getD 38 undef = .slice A n c := (hk 38 (Flow.mem_looks (by kernel_rfl))).by_ 13 (by kernel_rfl) (by decide)
        have r33 : a.tmps.getD 33 undef = .bool true := (hk 33 (Flow.mem_looks (by kernel_rfl))).by_ 8 (by kernel_rfl) (by decide)
        rw [if_pos (Flow.wanted_by (t := 33) rfl (by kernel_rfl) r33)]
        refine Flow.step_call (f := 15) (args := #[.int .u32 (N s), .slice A n c]) (by simp [execOp, Act.eval, r37, r38, go_sem]) ?_
        refine (refmore_any s A n c l _ (R.out.below hw) Y.out hn).mono ?_
        rintro e w1 ⟨rfl, rfl⟩
        exact ⟨_, rfl, Below.refl _ _, rfl⟩
      | 15, ho =>
        have ho2 := Option.some.inj ho; clear ho; subst ho2
        have r36 : a.tmps.getD 36 undef = .int .u32 (N (more s l)) := (hk 36 (Flow.mem_looks (by kernel_rfl))).by_ 11 (by kernel_rfl) (by decide)
        have r39 : a.tmps.getD 39 undef = .int .u32 (N (more s l)) := (hk 39 (Flow.mem_looks (by kernel_rfl))).by_ 14 (by kernel_rfl) (by decide)
        have r33 : a.tmps.getD 33 undef = .bool true := (hk 33 (Flow.mem_looks (by kernel_rfl))).by_ 8 (by kernel_rfl) (by decide)
        rw [if_pos (Flow.wanted_by (t := 33) rfl (by kernel_rfl) r33)]
        refine Flow.step_value (v := .bool true) ?_ ⟨Below.refl _ _, rfl⟩
        simp [execOp, Act.eval, r36, r39, go_sem]
      | 16, ho =>
        have ho2 := Option.some.inj ho; clear ho; subst ho2
        have r33 : a.tmps.getD 33 undef = .bool true := (hk 33 (Flow.mem_looks (by kernel_rfl))).by_ 8 (by kernel_rfl) (by decide)
        have r40 : a.tmps.getD 40 undef = .bool true := (hk 40 (Flow.mem_looks (by kernel_rfl))).by_ 15 (by kernel_rfl) (by decide)
        rw [if_pos (Flow.wanted_free rfl _)]
        refine Flow.step_value (v := .bool true) ?_ ⟨Below.refl _ _, rfl⟩
        simp [execOp, Act.eval, r33, r40, go_sem]
      | 17, ho =>
        have ho2 := Option.some.inj ho; clear ho; subst ho2
        have r41 : a.tmps.getD 41 undef = .bool true := (hk 41 (Flow.mem_looks (by kernel_rfl))).by_ 16 (by kernel_rfl) (by decide)
        rw [if_pos (Flow.wanted_free rfl _)]
        refine Flow.step_value (v := .bool true) ?_ ⟨Below.refl _ _, rfl⟩
        simp [execOp, Act.eval, r41, go_sem]
      | 18, ho =>
        have ho2 := Option.some.inj ho; clear ho; subst ho2
        have r1 : a.tmps.getD 1 undef = .slice A n c := (hk 1 (Flow.mem_looks (by kernel_rfl))).before (by kernel_rfl)
        have r42 : a.tmps.getD 42 undef = .bool true := (hk 42 (Flow.mem_looks (by kernel_rfl))).by_ 17 (by kernel_rfl) (by decide)
        rw [if_pos (Flow.wanted_by (t := 42) rfl (by kernel_rfl) r42)]
        refine Flow.step_value (v := .slice A n c) ?_ ⟨Below.refl _ _, rfl⟩
        simp [execOp, Act.eval, r1, go_sem]
      | 19, ho =>
        have ho2 := Option.some.inj ho; clear ho; subst ho2
        have r43 : a.tmps.getD 43 undef = .slice A n c := (hk 43 (Flow.mem_looks (by kernel_rfl))).by_ 18 (by kernel_rfl) (by decide)
        have r42 : a.tmps.getD 42 undef = .bool true := (hk 42 (Flow.mem_looks (by kernel_rfl))).by_ 17 (by kernel_rfl) (by decide)
        rw [if_pos (Flow.wanted_by (t := 42) rfl (by kernel_rfl) r42)]
        refine Flow.step_call (f := 16) (args := #[.slice A n c]) (by simp [execOp, Act.eval, r43, go_sem]) ?_
        refine (seal_any A n c l _ (R.out.below hw) Y.out hn).mono ?_
        rintro e w1 ⟨⟨v1, rfl, ho1⟩, hb1⟩
        obtain ⟨A1, c1, rfl, hr1, _⟩ := ho1.rd
        exact ⟨_, rfl, hb1, A1, c1, rfl, hr1⟩
      | 20, ho =>
        have ho2 := Option.some.inj ho; clear ho; subst ho2
        have r44 := (hk 44 (Flow.mem_looks (by kernel_rfl))).by_ 19 (by kernel_rfl) (by decide)
        have r42 : a.tmps.getD 42 undef = .bool true := (hk 42 (Flow.mem_looks (by kernel_rfl))).by_ 17 (by kernel_rfl) (by decide)
        rw [if_pos (Flow.wanted_by (t := 42) rfl (by kernel_rfl) r42)]
        obtain ⟨A1, c1, e1, hr1⟩ := r44
        have h1 := hr1.text (P := Try.prog) Try.underlying23 Try.underlying5 Try.underlying9
        refine Flow.step_value (v := .string (strOfNums (shut l))) ?_ ⟨Below.refl _ _, rfl⟩
        simp [execOp, Act.eval, e1, h1, go_sem]
      | 21, ho =>
        have ho2 := Option.some.inj ho; clear ho; subst ho2
        have r1 : a.tmps.getD 1 undef = .slice A n c := (hk 1 (Flow.mem_looks (by kernel_rfl))).before (by kernel_rfl)
        have r42 : a.tmps.getD 42 undef = .bool true := (hk 42 (Flow.mem_looks (by kernel_rfl))).by_ 17 (by kernel_rfl) (by decide)
        rw [if_pos (Flow.wanted_by (t := 42) rfl (by kernel_rfl) r42)]
        refine Flow.step_value (v := .slice A n c) ?_ ⟨Below.refl _ _, rfl⟩
        simp [execOp, Act.eval, r1, go_sem]
      | 22, ho =>
        have ho2 := Option.some.inj ho; clear ho; subst ho2
        have r46 : a.tmps.getD 46 undef = .slice A n c := (hk 46 (Flow.mem_looks (by kernel_rfl))).by_ 21 (by kernel_rfl) (by decide)
        have r42 : a.tmps.getD 42 undef = .bool true := (hk 42 (Flow.mem_looks (by kernel_rfl))).by_ 17 (by kernel_rfl) (by decide)
        rw [if_pos (Flow.wanted_by (t := 42) rfl (by kernel_rfl) r42)]
        refine Flow.step_call (f := 17) (args := #[.slice A n c]) (by simp [execOp, Act.eval, r46, go_sem]) ?_
        refine (refseal_any A n c l _ (R.out.below hw) Y.out hn).mono ?_
        rintro e w1 ⟨⟨v1, rfl, ho1⟩, hb1⟩
        obtain ⟨A1, c1, rfl, hr1, _⟩ := ho1.rd
        exact ⟨_, rfl, hb1, A1, c1, rfl, hr1⟩
      | 23, ho =>
        have ho2 := Option.some.inj ho; clear ho; subst ho2
        have r47 := (hk 47 (Flow.mem_looks (by kernel_rfl))).by_ 22 (by kernel_rfl) (by decide)
        have r42 : a.tmps.getD 42 undef = .bool true := (hk 42 (Flow.mem_looks (by kernel_rfl))).by_ 17 (by kernel_rfl) (by decide)
        rw [if_pos (Flow.wanted_by (t := 42) rfl (by kernel_rfl) r42)]
        obtain ⟨A1, c1, e1, hr1⟩ := r47
        have h1 := hr1.text (P := Try.prog) Try.underlying23 Try.underlying5 Try.underlying9
        refine Flow.step_value (v := .string (strOfNums (shut l))) ?_ ⟨Below.refl _ _, rfl⟩
        simp [execOp, Act.eval, e1, h1, go_sem]
      | 24, ho =>
        have ho2 := Option.some.inj ho; clear ho; subst ho2
        have r45 : a.tmps.getD 45 undef = .string (strOfNums (shut l)) := (hk 45 (Flow.mem_looks (by kernel_rfl))).by_ 20 (by kernel_rfl) (by decide)
        have r48 : a.tmps.getD 48 undef = .string (strOfNums (shut l)) := (hk 48 (Flow.mem_looks (by kernel_rfl))).by_ 23 (by kernel_rfl) (by decide)
        have r42 : a.tmps.getD 42 undef = .bool true := (hk 42 (Flow.mem_looks (by kernel_rfl))).by_ 17 (by kernel_rfl) (by decide)
        rw [if_pos (Flow.wanted_by (t := 42) rfl (by kernel_rfl) r42)]
        refine Flow.step_value (v := .bool true) ?_ ⟨Below.refl _ _, rfl⟩
        simp [execOp, Act.eval, r45, r48, go_sem]
      | 25, ho =>
        have ho2 := Option.some.inj ho; clear ho; subst ho2
        have r42 : a.tmps.getD 42 undef = .bool true := (hk 42 (Flow.mem_looks (by kernel_rfl))).by_ 17 (by kernel_rfl) (by decide)
        have r49 : a.tmps.getD 49 undef = .bool true := (hk 49 (Flow.mem_looks (by kernel_rfl))).by_ 24 (by kernel_rfl) (by decide)
        rw [if_pos (Flow.wanted_free rfl _)]
        refine Flow.step_value (v := .bool true) ?_ ⟨Below.refl _ _, rfl⟩
        simp [execOp, Act.eval, r42, r49, go_sem]
      | 26, ho =>
        have ho2 := Option.some.inj ho; clear ho; subst ho2
        have r50 : a.tmps.getD 50 undef = .bool true := (hk 50 (Flow.mem_looks (by kernel_rfl))).by_ 25 (by kernel_rfl) (by decide)
        rw [if_pos (Flow.wanted_free rfl _)]
        refine Flow.step_value (v := .bool true) ?_ ⟨Below.refl _ _, rfl⟩
        simp [execOp, Act.eval, r50, go_sem]
      | 27, ho =>
        have ho2 := Option.some.inj ho; clear ho; subst ho2
        have r6 : a.tmps.getD 6 undef = .slice A6 m6 c6 := (hk 6 (Flow.mem_looks (by kernel_rfl))).before (by kernel_rfl)
        have r51 : a.tmps.getD 51 undef = .bool true := (hk 51 (Flow.mem_looks (by kernel_rfl))).by_ 26 (by kernel_rfl) (by decide)
        rw [if_pos (Flow.wanted_by (t := 51) rfl (by kernel_rfl) r51)]
        refine Flow.step_value (v := .slice A6 m6 c6) ?_ ⟨Below.refl _ _, rfl⟩
        simp [execOp, Act.eval, r6, go_sem]
      | 28, ho =>
        have ho2 := Option.some.inj ho; clear ho; subst ho2
        have r52 : a.tmps.getD 52 undef = .slice A6 m6 c6 := (hk 52 (Flow.mem_looks (by kernel_rfl))).by_ 27 (by kernel_rfl) (by decide)
        have r51 : a.tmps.getD 51 undef = .bool true := (hk 51 (Flow.mem_looks (by kernel_rfl))).by_ 26 (by kernel_rfl) (by decide)
        rw [if_pos (Flow.wanted_by (t := 51) rfl (by kernel_rfl) r51)]
        have h1 := (R6.out.below hw).text (P := Try.prog) Try.underlying23 Try.underlying5 Try.underlying9
        refine Flow.step_value (v := .string (strOfNums li)) ?_ ⟨Below.refl _ _, rfl⟩
        simp [execOp, Act.eval, r52, h1, go_sem]
      | 29, ho =>
        have ho2 := Option.some.inj ho; clear ho; subst ho2
        have r8 : a.tmps.getD 8 undef = .slice A8 m8 c8 := (hk 8 (Flow.mem_looks (by kernel_rfl))).before (by kernel_rfl)
        have r51 : a.tmps.getD 51 undef = .bool true := (hk 51 (Flow.mem_looks (by kernel_rfl))).by_ 26 (by kernel_rfl) (by decide)
        rw [if_pos (Flow.wanted_by (t := 51) rfl (by kernel_rfl) r51)]
        refine Flow.step_value (v := .slice A8 m8 c8) ?_ ⟨Below.refl _ _, rfl⟩
        simp [execOp, Act.eval, r8, go_sem]
      | 30, ho =>
        have ho2 := Option.some.inj ho; clear ho; subst ho2
        have r54 : a.tmps.getD 54 undef = .slice A8 m8 c8 := (hk 54 (Flow.mem_looks (by kernel_rfl))).by_ 29 (by kernel_rfl) (by decide)
        have r51 : a.tmps.getD 51 undef = .bool true := (hk 51 (Flow.mem_looks (by kernel_rfl))).by_ 26 (by kernel_rfl) (by decide)
        rw [if_pos (Flow.wanted_by (t := 51) rfl (by kernel_rfl) r51)]
        have h1 := (R8.out.below hw).text (P := Try.prog) Try.underlying23 Try.underlying5 Try.underlying9
        refine Flow.step_value (v := .string (strOfNums li)) ?_ ⟨Below.refl _ _, rfl⟩
        simp [execOp, Act.eval, r54, h1, go_sem]
      | 31, ho =>
        have ho2 := Option.some.inj ho; clear ho; subst ho2
        have r53 : a.tmps.getD 53 undef = .string (strOfNums li) := (hk 53 (Flow.mem_looks (by kernel_rfl))).by_ 28 (by kernel_rfl) (by decide)
        have r55 : a.tmps.getD 55 undef = .string (strOfNums li) := (hk 55 (Flow.mem_looks (by kernel_rfl))).by_ 30 (by kernel_rfl) (by decide)
        have r51 : a.tmps.getD 51 undef = .bool true := (hk 51 (Flow.mem_looks (by kernel_rfl))).by_ 26 (by kernel_rfl) (by decide)
        rw [if_pos (Flow.wanted_by (t := 51) rfl (by kernel_rfl) r51)]
        refine Flow.step_value (v := .bool true) ?_ ⟨Below.refl _ _, rfl⟩
        simp [execOp, Act.eval, r53, r55, go_sem]
      | 32, ho =>
        have ho2 := Option.some.inj ho; clear ho; subst ho2
        have r51 : a.tmps.getD 51 undef = .bool true := (hk 51 (Flow.mem_looks (by kernel_rfl))).by_ 26 (by kernel_rfl) (by decide)
        have r56 : a.tmps.getD 56 undef = .bool true := (hk 56 (Flow.mem_looks (by kernel_rfl))).by_ 31 (by kernel_rfl) (by decide)
        rw [if_pos (Flow.wanted_free rfl _)]
        refine Flow.step_value (v := .bool true) ?_ ⟨Below.refl _ _, rfl⟩
        simp [execOp, Act.eval, r51, r56, go_sem]
      | 33, ho =>
        have ho2 := Option.some.inj ho; clear ho; subst ho2
        have r57 : a.tmps.getD 57 undef = .bool true := (hk 57 (Flow.mem_looks (by kernel_rfl))).by_ 32 (by kernel_rfl) (by decide)
        rw [if_pos (Flow.wanted_free rfl _)]
        refine Flow.step_value (v := .bool true) ?_ ⟨Below.refl _ _, rfl⟩
        simp [execOp, Act.eval, r57, go_sem]
      | 34, ho =>
        have ho2 := Option.some.inj ho; clear ho; subst ho2
        have r7 : a.tmps.getD 7 undef = .bool q := (hk 7 (Flow.mem_looks (by kernel_rfl))).before (by kernel_rfl)
        have r58 : a.tmps.getD 58 undef = .bool true := (hk 58 (Flow.mem_looks (by kernel_rfl))).by_ 33 (by kernel_rfl) (by decide)
        rw [if_pos (Flow.wanted_by (t := 58) rfl (by kernel_rfl) r58)]
        refine Flow.step_value (v := .bool q) ?_ ⟨Below.refl _ _, rfl⟩
        simp [execOp, Act.eval, r7, go_sem]
      | 35, ho =>
        have ho2 := Option.some.inj ho; clear ho; subst ho2
        have r9 : a.tmps.getD 9 undef = .bool q := (hk 9 (Flow.mem_looks (by kernel_rfl))).before (by kernel_rfl)
        have r58 : a.tmps.getD 58 undef = .bool true := (hk 58 (Flow.mem_looks (by kernel_rfl))).by_ 33 (by kernel_rfl) (by decide)
        rw [if_pos (Flow.wanted_by (t := 58) rfl (by kernel_rfl) r58)]
        refine Flow.step_value (v := .bool q) ?_ ⟨Below.refl _ _, rfl⟩
        simp [execOp, Act.eval, r9, go_sem]
      | 36, ho =>
        have ho2 := Option.some.inj ho; clear ho; subst ho2
        have r59 : a.tmps.getD 59 undef = .bool q := (hk 59 (Flow.mem_looks (by kernel_rfl))).by_ 34 (by kernel_rfl) (by decide)
        have r60 : a.tmps.getD 60 undef = .bool q := (hk 60 (Flow.mem_looks (by kernel_rfl))).by_ 35 (by kernel_rfl) (by decide)
        have r58 : a.tmps.getD 58 undef = .bool true := (hk 58 (Flow.mem_looks (by kernel_rfl))).by_ 33 (by kernel_rfl) (by decide)
        rw [if_pos (Flow.wanted_by (t := 58) rfl (by kernel_rfl) r58)]
        refine Flow.step_value (v := .bool true) ?_ ⟨Below.refl _ _, rfl⟩
        simp [execOp, Act.eval, r59, r60, go_sem]
      | 37, ho =>
        have ho2 := Option.some.inj ho; clear ho; subst ho2
        have r58 : a.tmps.getD 58 undef = .bool true := (hk 58 (Flow.mem_looks (by kernel_rfl))).by_ 33 (by kernel_rfl) (by decide)
        have r61 : a.tmps.getD 61 undef = .bool true := (hk 61 (Flow.mem_looks (by kernel_rfl))).by_ 36 (by kernel_rfl) (by decide)
        rw [if_pos (Flow.wanted_free rfl _)]
        refine Flow.step_value (v := .bool true) ?_ ⟨Below.refl _ _, rfl⟩
        simp [execOp, Act.eval, r58, r61, go_sem]
      | 38, ho =>
        have ho2 := Option.some.inj ho; clear ho; subst ho2
        have r62 : a.tmps.getD 62 undef = .bool true := (hk 62 (Flow.mem_looks (by kernel_rfl))).by_ 37 (by kernel_rfl) (by decide)
        rw [if_pos (Flow.wanted_free rfl _)]
        refine Flow.step_value (v := .bool true) ?_ ⟨Below.refl _ _, rfl⟩
        simp [execOp, Act.eval, r62, go_sem]
      | _ + 39, ho => exact absurd ho (by simp)
    case fin =>
      intro a w4 hw4 hd4 hs4 hg hold
      have r := hg 38 _ 4 rfl rfl
      refine (‹∀ (a : Act) (w : World), Code.wp _ Code.ret _ a w → _›) _ _ ?_
      refine wp_ret ?_
      refine bodyPost_ret (results_tmp rfl _ _ _) hd4 ⟨?_, below_trans B3.out hw4 B3.out.size⟩
      exact congrArg Ending.returned r
end Go.Proofs.Ytofmjnjcegcbbaa.Crc
