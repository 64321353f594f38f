/- The walk of CellTells. -/
import Derived.Test.YtjfpmjbbgmhjgaaDoorLaws
namespace Go.Proofs.YtjfpmjbbgmhjgaaDoor.Crc
open Go.RowKit CrcMath

theorem refget_reads (b : Bool) (v : List Int) (A : Option Addr) (n c : Nat) (l : List Int) (q p : Int) (w : World) (hr : Rd w .u8 A n c l) (hb : Bytes l) (h1 : gets q p l = b) (h2 : getv q p l = v) :
    Calls Tryd.prog 10 #[.slice A n c, .int .i64 q, .int .i64 p] w fun e w' => (∃ A2 c2, e = .returned (.tuple #[.slice A2 v.length c2, .bool b]) ∧ Rd w' .u8 A2 v.length c2 v) ∧ Below w.heap.size w w' := by
  refine (refget_any A n c l q p w hr hb).mono ?_
  rintro e w' ⟨⟨v1, m, rfl, hown⟩, hb⟩
  rw [h2] at hown
  obtain ⟨A2, c2, rfl, hr2, _⟩ := hown.rd
  have := hr2.len
  subst this
  exact ⟨⟨A2, c2, by rw [h1], hr2⟩, hb⟩
def G3 (q p : Int) (A : Option Addr) (n c : Nat) (l vv : List Int) (A10 : Option Addr) (c10 : Nat) (A12 : Option Addr) (c12 : Nat) (b : Bool) : Nat → Value → World → Prop
  | 0 => fun v _ => v = .bool true
  | 1 => fun v _ => v = .bool true
  | 2 => fun v _ => v = .int .i64 q
  | 3 => fun v _ => v = .int .i64 p
  | 4 => fun v _ => v = .slice A n c
  | 5 => fun x w => ∃ A1 c1, x = .slice A1 (put q p l).length c1 ∧ Rd w .u8 A1 (put q p l).length c1 (put q p l)
  | 6 => fun v _ => v = .string (strOfNums (put q p l))
  | 7 => fun v _ => v = .int .i64 q
  | 8 => fun v _ => v = .int .i64 p
  | 9 => fun v _ => v = .slice A n c
  | 10 => fun x w => ∃ A1 c1, x = .slice A1 (put q p l).length c1 ∧ Rd w .u8 A1 (put q p l).length c1 (put q p l)
  | 11 => fun v _ => v = .string (strOfNums (put q p l))
  | 12 => fun v _ => v = .bool true
  | 13 => fun v _ => v = .bool true
  | 14 => fun v _ => v = .bool true
  | 15 => fun v _ => v = .slice A10 vv.length c10
  | 16 => fun v _ => v = .string (strOfNums vv)
  | 17 => fun v _ => v = .slice A12 vv.length c12
  | 18 => fun v _ => v = .string (strOfNums vv)
  | 19 => fun v _ => v = .bool true
  | 20 => fun v _ => v = .bool true
  | 21 => fun v _ => v = .bool true
  | 22 => fun v _ => v = .bool b
  | 23 => fun v _ => v = .bool b
  | 24 => fun v _ => v = .bool true
  | 25 => fun v _ => v = .bool true
  | 26 => fun v _ => v = .bool true
  | 27 => fun v _ => v = .int .i64 q
  | 28 => fun v _ => v = .int .i64 p
  | 29 => fun v _ => v = .bool (right q p)
  | 30 => fun v _ => v = .int .i64 q
  | 31 => fun v _ => v = .int .i64 p
  | 32 => fun v _ => v = .bool (right q p)
  | 33 => fun v _ => v = .bool true
  | 34 => fun v _ => v = .bool true
  | 35 => fun v _ => v = .bool true
  | 36 => fun v _ => v = .int .i64 59
  | 37 => fun v _ => v = .int .i64 59
  | 38 => fun v _ => v = .bool true
  | 39 => fun v _ => v = .bool true
  | 40 => fun v _ => v = .bool true
  | _ => fun _ _ => True
theorem G3_stable (q p : Int) (A : Option Addr) (n c : Nat) (l vv : List Int) (A10 : Option Addr) (c10 : Nat) (A12 : Option Addr) (c12 : Nat) (b : Bool) : ∀ i v w w', G3 q p A n c l vv A10 c10 A12 c12 b i v w → Below w.heap.size w w' → G3 q p A n c l vv A10 c10 A12 c12 b i v w' := by
  intro i v w w' h hb
  match i, h with
  | 0, h => exact h
  | 1, h => exact h
  | 2, h => exact h
  | 3, h => exact h
  | 4, h => exact h
  | 5, h => exact (by obtain ⟨A1, c1, e, hr⟩ := h; exact ⟨A1, c1, e, hr.below hb⟩)
  | 6, h => exact h
  | 7, h => exact h
  | 8, h => exact h
  | 9, h => exact h
  | 10, h => exact (by obtain ⟨A1, c1, e, hr⟩ := h; exact ⟨A1, c1, e, hr.below hb⟩)
  | 11, h => exact h
  | 12, h => exact h
  | 13, h => exact h
  | 14, h => exact h
  | 15, h => exact h
  | 16, h => exact h
  | 17, h => exact h
  | 18, h => exact h
  | 19, h => exact h
  | 20, h => exact h
  | 21, h => exact h
  | 22, h => exact h
  | 23, h => exact h
  | 24, h => exact h
  | 25, h => exact h
  | 26, h => exact h
  | 27, h => exact h
  | 28, h => exact h
  | 29, h => exact h
  | 30, h => exact h
  | 31, h => exact h
  | 32, h => exact h
  | 33, h => exact h
  | 34, h => exact h
  | 35, h => exact h
  | 36, h => exact h
  | 37, h => exact h
  | 38, h => exact h
  | 39, h => exact h
  | 40, h => exact h
  | _ + 41, _ => exact trivial
set_option maxHeartbeats 8000000 in
set_option maxRecDepth 100000 in
theorem CellTells_walk (q p : Int) (A : Option Addr) (n c : Nat) (zs : List Int) (A3 : Option Addr) (k c3 : Nat) (zs3 : List Int) (w : World) (_ : (Lit.int .i64 q).wf = true) (_ : (Lit.int .i64 p).wf = true) (hz : IsRow .u8 w A n c zs) (hz3 : IsRow .u8 w A3 k c3 zs3) :
    Calls Tryd.prog 3 #[.int .i64 q, .int .i64 p, .slice A n c, .slice A3 k c3] w fun e w' => e = .returned (.bool true) ∧ Below w.heap.size w w' := by
  have RB0 := Lib.hid hz.rd
  have YB := Lib.hid hz.bytes
  have RS0 := Lib.hid hz3.rd
  have YS := Lib.hid hz3.bytes
  have hs := Nat.le_trans hz.rd.le hz.rd.small
  have hs3 := Nat.le_trans hz3.rd.le hz3.rd.small
  generalize zs.take n = l at RB0 YB
  generalize zs3.take k = ls at RS0 YS
  clear hz hz3
  by_cases h9 : (900 : Int) < n
  · have hd1 : decide ((900 : Int) < n) = true := decide_eq_true h9
    go_enter Tryd.func3, Tryd.ntmps3
    go_wp2_with fail
    refine (head_any _).mono ?_
    rintro e w1 ⟨rfl, hb1⟩
    go_wp2
    go_ret
    exact ⟨rfl, hb1⟩
  · have hd1 : decide ((900 : Int) < n) = false := decide_eq_false h9
    by_cases h8 : (900 : Int) < k
    · have hd2 : decide ((900 : Int) < k) = true := decide_eq_true h8
      go_enter Tryd.func3, Tryd.ntmps3
      go_wp2_with fail
      refine (head_any _).mono ?_
      rintro e w1 ⟨rfl, hb1⟩
      go_wp2
      go_ret
      exact ⟨rfl, hb1⟩
    have hd2 : decide ((900 : Int) < k) = false := decide_eq_false h8
    obtain ⟨b, hbb⟩ : ∃ b, b = gets q p ls := ⟨_, rfl⟩
    obtain ⟨vv, hv⟩ : ∃ v, v = getv q p ls := ⟨_, rfl⟩
    have HB := Lib.hid hbb
    have HV := Lib.hid hv
    clear hbb hv
    go_enter Tryd.func3, Tryd.ntmps3
    go_wp2_with fail
    refine (head_any _).mono ?_
    rintro e w1 ⟨rfl, hb1⟩
    have B1 := Lib.hid hb1
    clear hb1
    go_wp2_with fail
    refine (get_reads b vv A3 k c3 ls q p _ (RS0.out.below B1.out) YS.out HB.out.symm HV.out.symm).mono ?_
    rintro e w2 ⟨⟨A10, c10, rfl, hr2⟩, hb2⟩
    have B2 := Lib.hid (below_trans B1.out hb2 B1.out.size)
    have RX0 := Lib.hid hr2
    clear hb2 hr2
    go_wp2_with fail
    refine (refget_reads b vv A3 k c3 ls q p _ (RS0.out.below B2.out) YS.out HB.out.symm HV.out.symm).mono ?_
    rintro e w3 ⟨⟨A12, c12, rfl, hr3⟩, hb3⟩
    have B3 := Lib.hid (below_trans B2.out hb3 B2.out.size)
    have RX := Lib.hid (RX0.out.below hb3)
    have RY := Lib.hid hr3
    have RB := Lib.hid (RB0.out.below B3.out)
    clear hb3 hr3
    go_wp2_with fail
    refine Flow.wp_region_flow (by kernel_rfl) (G3 q p A n c l vv A10 c10 A12 c12 b) (by kernel_rfl) (G3_stable q p A n c l vv A10 c10 A12 c12 b) ?loc ?fin
    case loc =>
      intro i o ho a w hw hk
      match i, ho with
      | 0, ho =>
        have ho2 := Option.some.inj ho; clear ho; subst ho2
        have r9 : a.tmps.getD 9 undef = .bool true := (hk 9 (Flow.mem_looks (by kernel_rfl))).before (by kernel_rfl)
        rw [if_pos (Flow.wanted_free rfl _)]
        refine Flow.step_value (v := .bool true) ?_ ⟨Below.refl _ _, rfl⟩
        simp [execOp, Act.eval, r9, go_sem]
      | 1, ho =>
        have ho2 := Option.some.inj ho; clear ho; subst ho2
        have r38 : a.tmps.getD 38 undef = .bool true := (hk 38 (Flow.mem_looks (by kernel_rfl))).by_ 0 (by kernel_rfl) (by decide)
        rw [if_pos (Flow.wanted_free rfl _)]
        refine Flow.step_value (v := .bool true) ?_ ⟨Below.refl _ _, rfl⟩
        simp [execOp, Act.eval, r38, go_sem]
      | 2, ho =>
        have ho2 := Option.some.inj ho; clear ho; subst ho2
        have r0 : a.tmps.getD 0 undef = .int .i64 q := (hk 0 (Flow.mem_looks (by kernel_rfl))).before (by kernel_rfl)
        have r39 : a.tmps.getD 39 undef = .bool true := (hk 39 (Flow.mem_looks (by kernel_rfl))).by_ 1 (by kernel_rfl) (by decide)
        rw [if_pos (Flow.wanted_by (t := 39) rfl (by kernel_rfl) r39)]
        refine Flow.step_value (v := .int .i64 q) ?_ ⟨Below.refl _ _, rfl⟩
        simp [execOp, Act.eval, r0, go_sem]
      | 3, ho =>
        have ho2 := Option.some.inj ho; clear ho; subst ho2
        have r1 : a.tmps.getD 1 undef = .int .i64 p := (hk 1 (Flow.mem_looks (by kernel_rfl))).before (by kernel_rfl)
        have r39 : a.tmps.getD 39 undef = .bool true := (hk 39 (Flow.mem_looks (by kernel_rfl))).by_ 1 (by kernel_rfl) (by decide)
        rw [if_pos (Flow.wanted_by (t := 39) rfl (by kernel_rfl) r39)]
        refine Flow.step_value (v := .int .i64 p) ?_ ⟨Below.refl _ _, rfl⟩
        simp [execOp, Act.eval, r1, go_sem]
      | 4, ho =>
        have ho2 := Option.some.inj ho; clear ho; subst ho2
        have r2 : a.tmps.getD 2 undef = .slice A n c := (hk 2 (Flow.mem_looks (by kernel_rfl))).before (by kernel_rfl)
        have r39 : a.tmps.getD 39 undef = .bool true := (hk 39 (Flow.mem_looks (by kernel_rfl))).by_ 1 (by kernel_rfl) (by decide)
        rw [if_pos (Flow.wanted_by (t := 39) rfl (by kernel_rfl) r39)]
        refine Flow.step_value (v := .slice A n c) ?_ ⟨Below.refl _ _, rfl⟩
        simp [execOp, Act.eval, r2, go_sem]
      | 5, ho =>
        have ho2 := Option.some.inj ho; clear ho; subst ho2
        have r40 : a.tmps.getD 40 undef = .int .i64 q := (hk 40 (Flow.mem_looks (by kernel_rfl))).by_ 2 (by kernel_rfl) (by decide)
        have r41 : a.tmps.getD 41 undef = .int .i64 p := (hk 41 (Flow.mem_looks (by kernel_rfl))).by_ 3 (by kernel_rfl) (by decide)
        have r42 : a.tmps.getD 42 undef = .slice A n c := (hk 42 (Flow.mem_looks (by kernel_rfl))).by_ 4 (by kernel_rfl) (by decide)
        have r39 : a.tmps.getD 39 undef = .bool true := (hk 39 (Flow.mem_looks (by kernel_rfl))).by_ 1 (by kernel_rfl) (by decide)
        rw [if_pos (Flow.wanted_by (t := 39) rfl (by kernel_rfl) r39)]
        refine Flow.step_call (f := 11) (args := #[.int .i64 q, .int .i64 p, .slice A n c]) (by simp [execOp, Act.eval, r40, r41, r42, go_sem]) ?_
        refine (put_any q p A n c l _ (RB.out.below hw) YB.out).mono ?_
        rintro e w1 ⟨⟨v1, rfl, ho1⟩, hb1⟩
        obtain ⟨A1, c1, rfl, hr1, _⟩ := ho1.rd
        exact ⟨_, rfl, hb1, A1, c1, rfl, hr1⟩
      | 6, ho =>
        have ho2 := Option.some.inj ho; clear ho; subst ho2
        have r43 := (hk 43 (Flow.mem_looks (by kernel_rfl))).by_ 5 (by kernel_rfl) (by decide)
        have r39 : a.tmps.getD 39 undef = .bool true := (hk 39 (Flow.mem_looks (by kernel_rfl))).by_ 1 (by kernel_rfl) (by decide)
        rw [if_pos (Flow.wanted_by (t := 39) rfl (by kernel_rfl) r39)]
        obtain ⟨A1, c1, e1, hr1⟩ := r43
        have h1 := hr1.text (P := Tryd.prog) Tryd.underlying22 Tryd.underlying5 Tryd.underlying9
        refine Flow.step_value (v := .string (strOfNums (put q p l))) ?_ ⟨Below.refl _ _, rfl⟩
        simp [execOp, Act.eval, e1, h1, go_sem]
      | 7, ho =>
        have ho2 := Option.some.inj ho; clear ho; subst ho2
        have r0 : a.tmps.getD 0 undef = .int .i64 q := (hk 0 (Flow.mem_looks (by kernel_rfl))).before (by kernel_rfl)
        have r39 : a.tmps.getD 39 undef = .bool true := (hk 39 (Flow.mem_looks (by kernel_rfl))).by_ 1 (by kernel_rfl) (by decide)
        rw [if_pos (Flow.wanted_by (t := 39) rfl (by kernel_rfl) r39)]
        refine Flow.step_value (v := .int .i64 q) ?_ ⟨Below.refl _ _, rfl⟩
        simp [execOp, Act.eval, r0, go_sem]
      | 8, ho =>
        have ho2 := Option.some.inj ho; clear ho; subst ho2
        have r1 : a.tmps.getD 1 undef = .int .i64 p := (hk 1 (Flow.mem_looks (by kernel_rfl))).before (by kernel_rfl)
        have r39 : a.tmps.getD 39 undef = .bool true := (hk 39 (Flow.mem_looks (by kernel_rfl))).by_ 1 (by kernel_rfl) (by decide)
        rw [if_pos (Flow.wanted_by (t := 39) rfl (by kernel_rfl) r39)]
        refine Flow.step_value (v := .int .i64 p) ?_ ⟨Below.refl _ _, rfl⟩
        simp [execOp, Act.eval, r1, go_sem]
      | 9, ho =>
        have ho2 := Option.some.inj ho; clear ho; subst ho2
        have r2 : a.tmps.getD 2 undef = .slice A n c := (hk 2 (Flow.mem_looks (by kernel_rfl))).before (by kernel_rfl)
        have r39 : a.tmps.getD 39 undef = .bool true := (hk 39 (Flow.mem_looks (by kernel_rfl))).by_ 1 (by kernel_rfl) (by decide)
        rw [if_pos (Flow.wanted_by (t := 39) rfl (by kernel_rfl) r39)]
        refine Flow.step_value (v := .slice A n c) ?_ ⟨Below.refl _ _, rfl⟩
        simp [execOp, Act.eval, r2, go_sem]
      | 10, ho =>
        have ho2 := Option.some.inj ho; clear ho; subst ho2
        have r45 : a.tmps.getD 45 undef = .int .i64 q := (hk 45 (Flow.mem_looks (by kernel_rfl))).by_ 7 (by kernel_rfl) (by decide)
        have r46 : a.tmps.getD 46 undef = .int .i64 p := (hk 46 (Flow.mem_looks (by kernel_rfl))).by_ 8 (by kernel_rfl) (by decide)
        have r47 : a.tmps.getD 47 undef = .slice A n c := (hk 47 (Flow.mem_looks (by kernel_rfl))).by_ 9 (by kernel_rfl) (by decide)
        have r39 : a.tmps.getD 39 undef = .bool true := (hk 39 (Flow.mem_looks (by kernel_rfl))).by_ 1 (by kernel_rfl) (by decide)
        rw [if_pos (Flow.wanted_by (t := 39) rfl (by kernel_rfl) r39)]
        refine Flow.step_call (f := 12) (args := #[.int .i64 q, .int .i64 p, .slice A n c]) (by simp [execOp, Act.eval, r45, r46, r47, go_sem]) ?_
        refine (refput_any q p A n c l _ (RB.out.below hw) YB.out).mono ?_
        rintro e w1 ⟨⟨v1, rfl, ho1⟩, hb1⟩
        obtain ⟨A1, c1, rfl, hr1, _⟩ := ho1.rd
        exact ⟨_, rfl, hb1, A1, c1, rfl, hr1⟩
      | 11, ho =>
        have ho2 := Option.some.inj ho; clear ho; subst ho2
        have r48 := (hk 48 (Flow.mem_looks (by kernel_rfl))).by_ 10 (by kernel_rfl) (by decide)
        have r39 : a.tmps.getD 39 undef = .bool true := (hk 39 (Flow.mem_looks (by kernel_rfl))).by_ 1 (by kernel_rfl) (by decide)
        rw [if_pos (Flow.wanted_by (t := 39) rfl (by kernel_rfl) r39)]
        obtain ⟨A1, c1, e1, hr1⟩ := r48
        have h1 := hr1.text (P := Tryd.prog) Tryd.underlying22 Tryd.underlying5 Tryd.underlying9
        refine Flow.step_value (v := .string (strOfNums (put q p l))) ?_ ⟨Below.refl _ _, rfl⟩
        simp [execOp, Act.eval, e1, h1, go_sem]
      | 12, ho =>
        have ho2 := Option.some.inj ho; clear ho; subst ho2
        have r44 : a.tmps.getD 44 undef = .string (strOfNums (put q p l)) := (hk 44 (Flow.mem_looks (by kernel_rfl))).by_ 6 (by kernel_rfl) (by decide)
        have r49 : a.tmps.getD 49 undef = .string (strOfNums (put q p l)) := (hk 49 (Flow.mem_looks (by kernel_rfl))).by_ 11 (by kernel_rfl) (by decide)
        have r39 : a.tmps.getD 39 undef = .bool true := (hk 39 (Flow.mem_looks (by kernel_rfl))).by_ 1 (by kernel_rfl) (by decide)
        rw [if_pos (Flow.wanted_by (t := 39) rfl (by kernel_rfl) r39)]
        refine Flow.step_value (v := .bool true) ?_ ⟨Below.refl _ _, rfl⟩
        simp [execOp, Act.eval, r44, r49, go_sem]
      | 13, ho =>
        have ho2 := Option.some.inj ho; clear ho; subst ho2
        have r39 : a.tmps.getD 39 undef = .bool true := (hk 39 (Flow.mem_looks (by kernel_rfl))).by_ 1 (by kernel_rfl) (by decide)
        have r50 : a.tmps.getD 50 undef = .bool true := (hk 50 (Flow.mem_looks (by kernel_rfl))).by_ 12 (by kernel_rfl) (by decide)
        rw [if_pos (Flow.wanted_free rfl _)]
        refine Flow.step_value (v := .bool true) ?_ ⟨Below.refl _ _, rfl⟩
        simp [execOp, Act.eval, r39, r50, go_sem]
      | 14, ho =>
        have ho2 := Option.some.inj ho; clear ho; subst ho2
        have r51 : a.tmps.getD 51 undef = .bool true := (hk 51 (Flow.mem_looks (by kernel_rfl))).by_ 13 (by kernel_rfl) (by decide)
        rw [if_pos (Flow.wanted_free rfl _)]
        refine Flow.step_value (v := .bool true) ?_ ⟨Below.refl _ _, rfl⟩
        simp [execOp, Act.eval, r51, go_sem]
      | 15, ho =>
        have ho2 := Option.some.inj ho; clear ho; subst ho2
        have r10 : a.tmps.getD 10 undef = .slice A10 vv.length c10 := (hk 10 (Flow.mem_looks (by kernel_rfl))).before (by kernel_rfl)
        have r52 : a.tmps.getD 52 undef = .bool true := (hk 52 (Flow.mem_looks (by kernel_rfl))).by_ 14 (by kernel_rfl) (by decide)
        rw [if_pos (Flow.wanted_by (t := 52) rfl (by kernel_rfl) r52)]
        refine Flow.step_value (v := .slice A10 vv.length c10) ?_ ⟨Below.refl _ _, rfl⟩
        simp [execOp, Act.eval, r10, go_sem]
      | 16, ho =>
        have ho2 := Option.some.inj ho; clear ho; subst ho2
        have r53 : a.tmps.getD 53 undef = .slice A10 vv.length c10 := (hk 53 (Flow.mem_looks (by kernel_rfl))).by_ 15 (by kernel_rfl) (by decide)
        have r52 : a.tmps.getD 52 undef = .bool true := (hk 52 (Flow.mem_looks (by kernel_rfl))).by_ 14 (by kernel_rfl) (by decide)
        rw [if_pos (Flow.wanted_by (t := 52) rfl (by kernel_rfl) r52)]
        have h1 := (RX.out.below hw).text (P := Tryd.prog) Tryd.underlying22 Tryd.underlying5 Tryd.underlying9
        refine Flow.step_value (v := .string (strOfNums vv)) ?_ ⟨Below.refl _ _, rfl⟩
        simp [execOp, Act.eval, r53, h1, go_sem]
      | 17, ho =>
        have ho2 := Option.some.inj ho; clear ho; subst ho2
        have r12 : a.tmps.getD 12 undef = .slice A12 vv.length c12 := (hk 12 (Flow.mem_looks (by kernel_rfl))).before (by kernel_rfl)
        have r52 : a.tmps.getD 52 undef = .bool true := (hk 52 (Flow.mem_looks (by kernel_rfl))).by_ 14 (by kernel_rfl) (by decide)
        rw [if_pos (Flow.wanted_by (t := 52) rfl (by kernel_rfl) r52)]
        refine Flow.step_value (v := .slice A12 vv.length c12) ?_ ⟨Below.refl _ _, rfl⟩
        simp [execOp, Act.eval, r12, go_sem]
      | 18, ho =>
        have ho2 := Option.some.inj ho; clear ho; subst ho2
        have r55 : a.tmps.getD 55 undef = .slice A12 vv.length c12 := (hk 55 (Flow.mem_looks (by kernel_rfl))).by_ 17 (by kernel_rfl) (by decide)
        have r52 : a.tmps.getD 52 undef = .bool true := (hk 52 (Flow.mem_looks (by kernel_rfl))).by_ 14 (by kernel_rfl) (by decide)
        rw [if_pos (Flow.wanted_by (t := 52) rfl (by kernel_rfl) r52)]
        have h1 := (RY.out.below hw).text (P := Tryd.prog) Tryd.underlying22 Tryd.underlying5 Tryd.underlying9
        refine Flow.step_value (v := .string (strOfNums vv)) ?_ ⟨Below.refl _ _, rfl⟩
        simp [execOp, Act.eval, r55, h1, go_sem]
      | 19, ho =>
        have ho2 := Option.some.inj ho; clear ho; subst ho2
        have r54 : a.tmps.getD 54 undef = .string (strOfNums vv) := (hk 54 (Flow.mem_looks (by kernel_rfl))).by_ 16 (by kernel_rfl) (by decide)
        have r56 : a.tmps.getD 56 undef = .string (strOfNums vv) := (hk 56 (Flow.mem_looks (by kernel_rfl))).by_ 18 (by kernel_rfl) (by decide)
        have r52 : a.tmps.getD 52 undef = .bool true := (hk 52 (Flow.mem_looks (by kernel_rfl))).by_ 14 (by kernel_rfl) (by decide)
        rw [if_pos (Flow.wanted_by (t := 52) rfl (by kernel_rfl) r52)]
        refine Flow.step_value (v := .bool true) ?_ ⟨Below.refl _ _, rfl⟩
        simp [execOp, Act.eval, r54, r56, go_sem]
      | 20, ho =>
        have ho2 := Option.some.inj ho; clear ho; subst ho2
        have r52 : a.tmps.getD 52 undef = .bool true := (hk 52 (Flow.mem_looks (by kernel_rfl))).by_ 14 (by kernel_rfl) (by decide)
        have r57 : a.tmps.getD 57 undef = .bool true := (hk 57 (Flow.mem_looks (by kernel_rfl))).by_ 19 (by kernel_rfl) (by decide)
        rw [if_pos (Flow.wanted_free rfl _)]
        refine Flow.step_value (v := .bool true) ?_ ⟨Below.refl _ _, rfl⟩
        simp [execOp, Act.eval, r52, r57, go_sem]
      | 21, ho =>
        have ho2 := Option.some.inj ho; clear ho; subst ho2
        have r58 : a.tmps.getD 58 undef = .bool true := (hk 58 (Flow.mem_looks (by kernel_rfl))).by_ 20 (by kernel_rfl) (by decide)
        rw [if_pos (Flow.wanted_free rfl _)]
        refine Flow.step_value (v := .bool true) ?_ ⟨Below.refl _ _, rfl⟩
        simp [execOp, Act.eval, r58, go_sem]
      | 22, ho =>
        have ho2 := Option.some.inj ho; clear ho; subst ho2
        have r11 : a.tmps.getD 11 undef = .bool b := (hk 11 (Flow.mem_looks (by kernel_rfl))).before (by kernel_rfl)
        have r59 : a.tmps.getD 59 undef = .bool true := (hk 59 (Flow.mem_looks (by kernel_rfl))).by_ 21 (by kernel_rfl) (by decide)
        rw [if_pos (Flow.wanted_by (t := 59) rfl (by kernel_rfl) r59)]
        refine Flow.step_value (v := .bool b) ?_ ⟨Below.refl _ _, rfl⟩
        simp [execOp, Act.eval, r11, go_sem]
      | 23, ho =>
        have ho2 := Option.some.inj ho; clear ho; subst ho2
        have r13 : a.tmps.getD 13 undef = .bool b := (hk 13 (Flow.mem_looks (by kernel_rfl))).before (by kernel_rfl)
        have r59 : a.tmps.getD 59 undef = .bool true := (hk 59 (Flow.mem_looks (by kernel_rfl))).by_ 21 (by kernel_rfl) (by decide)
        rw [if_pos (Flow.wanted_by (t := 59) rfl (by kernel_rfl) r59)]
        refine Flow.step_value (v := .bool b) ?_ ⟨Below.refl _ _, rfl⟩
        simp [execOp, Act.eval, r13, go_sem]
      | 24, ho =>
        have ho2 := Option.some.inj ho; clear ho; subst ho2
        have r60 : a.tmps.getD 60 undef = .bool b := (hk 60 (Flow.mem_looks (by kernel_rfl))).by_ 22 (by kernel_rfl) (by decide)
        have r61 : a.tmps.getD 61 undef = .bool b := (hk 61 (Flow.mem_looks (by kernel_rfl))).by_ 23 (by kernel_rfl) (by decide)
        have r59 : a.tmps.getD 59 undef = .bool true := (hk 59 (Flow.mem_looks (by kernel_rfl))).by_ 21 (by kernel_rfl) (by decide)
        rw [if_pos (Flow.wanted_by (t := 59) rfl (by kernel_rfl) r59)]
        refine Flow.step_value (v := .bool true) ?_ ⟨Below.refl _ _, rfl⟩
        simp [execOp, Act.eval, r60, r61, go_sem]
      | 25, ho =>
        have ho2 := Option.some.inj ho; clear ho; subst ho2
        have r59 : a.tmps.getD 59 undef = .bool true := (hk 59 (Flow.mem_looks (by kernel_rfl))).by_ 21 (by kernel_rfl) (by decide)
        have r62 : a.tmps.getD 62 undef = .bool true := (hk 62 (Flow.mem_looks (by kernel_rfl))).by_ 24 (by kernel_rfl) (by decide)
        rw [if_pos (Flow.wanted_free rfl _)]
        refine Flow.step_value (v := .bool true) ?_ ⟨Below.refl _ _, rfl⟩
        simp [execOp, Act.eval, r59, r62, go_sem]
      | 26, ho =>
        have ho2 := Option.some.inj ho; clear ho; subst ho2
        have r63 : a.tmps.getD 63 undef = .bool true := (hk 63 (Flow.mem_looks (by kernel_rfl))).by_ 25 (by kernel_rfl) (by decide)
        rw [if_pos (Flow.wanted_free rfl _)]
        refine Flow.step_value (v := .bool true) ?_ ⟨Below.refl _ _, rfl⟩
        simp [execOp, Act.eval, r63, go_sem]
      | 27, ho =>
        have ho2 := Option.some.inj ho; clear ho; subst ho2
        have r0 : a.tmps.getD 0 undef = .int .i64 q := (hk 0 (Flow.mem_looks (by kernel_rfl))).before (by kernel_rfl)
        have r64 : a.tmps.getD 64 undef = .bool true := (hk 64 (Flow.mem_looks (by kernel_rfl))).by_ 26 (by kernel_rfl) (by decide)
        rw [if_pos (Flow.wanted_by (t := 64) rfl (by kernel_rfl) r64)]
        refine Flow.step_value (v := .int .i64 q) ?_ ⟨Below.refl _ _, rfl⟩
        simp [execOp, Act.eval, r0, go_sem]
      | 28, ho =>
        have ho2 := Option.some.inj ho; clear ho; subst ho2
        have r1 : a.tmps.getD 1 undef = .int .i64 p := (hk 1 (Flow.mem_looks (by kernel_rfl))).before (by kernel_rfl)
        have r64 : a.tmps.getD 64 undef = .bool true := (hk 64 (Flow.mem_looks (by kernel_rfl))).by_ 26 (by kernel_rfl) (by decide)
        rw [if_pos (Flow.wanted_by (t := 64) rfl (by kernel_rfl) r64)]
        refine Flow.step_value (v := .int .i64 p) ?_ ⟨Below.refl _ _, rfl⟩
        simp [execOp, Act.eval, r1, go_sem]
      | 29, ho =>
        have ho2 := Option.some.inj ho; clear ho; subst ho2
        have r65 : a.tmps.getD 65 undef = .int .i64 q := (hk 65 (Flow.mem_looks (by kernel_rfl))).by_ 27 (by kernel_rfl) (by decide)
        have r66 : a.tmps.getD 66 undef = .int .i64 p := (hk 66 (Flow.mem_looks (by kernel_rfl))).by_ 28 (by kernel_rfl) (by decide)
        have r64 : a.tmps.getD 64 undef = .bool true := (hk 64 (Flow.mem_looks (by kernel_rfl))).by_ 26 (by kernel_rfl) (by decide)
        rw [if_pos (Flow.wanted_by (t := 64) rfl (by kernel_rfl) r64)]
        refine Flow.step_call (f := 13) (args := #[.int .i64 q, .int .i64 p]) (by simp [execOp, Act.eval, r65, r66, go_sem]) ?_
        refine (right_any q p _).mono ?_
        rintro e w1 ⟨rfl, rfl⟩
        exact ⟨_, rfl, Below.refl _ _, rfl⟩
      | 30, ho =>
        have ho2 := Option.some.inj ho; clear ho; subst ho2
        have r0 : a.tmps.getD 0 undef = .int .i64 q := (hk 0 (Flow.mem_looks (by kernel_rfl))).before (by kernel_rfl)
        have r64 : a.tmps.getD 64 undef = .bool true := (hk 64 (Flow.mem_looks (by kernel_rfl))).by_ 26 (by kernel_rfl) (by decide)
        rw [if_pos (Flow.wanted_by (t := 64) rfl (by kernel_rfl) r64)]
        refine Flow.step_value (v := .int .i64 q) ?_ ⟨Below.refl _ _, rfl⟩
        simp [execOp, Act.eval, r0, go_sem]
      | 31, ho =>
        have ho2 := Option.some.inj ho; clear ho; subst ho2
        have r1 : a.tmps.getD 1 undef = .int .i64 p := (hk 1 (Flow.mem_looks (by kernel_rfl))).before (by kernel_rfl)
        have r64 : a.tmps.getD 64 undef = .bool true := (hk 64 (Flow.mem_looks (by kernel_rfl))).by_ 26 (by kernel_rfl) (by decide)
        rw [if_pos (Flow.wanted_by (t := 64) rfl (by kernel_rfl) r64)]
        refine Flow.step_value (v := .int .i64 p) ?_ ⟨Below.refl _ _, rfl⟩
        simp [execOp, Act.eval, r1, go_sem]
      | 32, ho =>
        have ho2 := Option.some.inj ho; clear ho; subst ho2
        have r68 : a.tmps.getD 68 undef = .int .i64 q := (hk 68 (Flow.mem_looks (by kernel_rfl))).by_ 30 (by kernel_rfl) (by decide)
        have r69 : a.tmps.getD 69 undef = .int .i64 p := (hk 69 (Flow.mem_looks (by kernel_rfl))).by_ 31 (by kernel_rfl) (by decide)
        have r64 : a.tmps.getD 64 undef = .bool true := (hk 64 (Flow.mem_looks (by kernel_rfl))).by_ 26 (by kernel_rfl) (by decide)
        rw [if_pos (Flow.wanted_by (t := 64) rfl (by kernel_rfl) r64)]
        refine Flow.step_call (f := 14) (args := #[.int .i64 q, .int .i64 p]) (by simp [execOp, Act.eval, r68, r69, go_sem]) ?_
        refine (refright_any q p _).mono ?_
        rintro e w1 ⟨rfl, rfl⟩
        exact ⟨_, rfl, Below.refl _ _, rfl⟩
      | 33, ho =>
        have ho2 := Option.some.inj ho; clear ho; subst ho2
        have r67 : a.tmps.getD 67 undef = .bool (right q p) := (hk 67 (Flow.mem_looks (by kernel_rfl))).by_ 29 (by kernel_rfl) (by decide)
        have r70 : a.tmps.getD 70 undef = .bool (right q p) := (hk 70 (Flow.mem_looks (by kernel_rfl))).by_ 32 (by kernel_rfl) (by decide)
        have r64 : a.tmps.getD 64 undef = .bool true := (hk 64 (Flow.mem_looks (by kernel_rfl))).by_ 26 (by kernel_rfl) (by decide)
        rw [if_pos (Flow.wanted_by (t := 64) rfl (by kernel_rfl) r64)]
        refine Flow.step_value (v := .bool true) ?_ ⟨Below.refl _ _, rfl⟩
        simp [execOp, Act.eval, r67, r70, go_sem]
      | 34, ho =>
        have ho2 := Option.some.inj ho; clear ho; subst ho2
        have r64 : a.tmps.getD 64 undef = .bool true := (hk 64 (Flow.mem_looks (by kernel_rfl))).by_ 26 (by kernel_rfl) (by decide)
        have r71 : a.tmps.getD 71 undef = .bool true := (hk 71 (Flow.mem_looks (by kernel_rfl))).by_ 33 (by kernel_rfl) (by decide)
        rw [if_pos (Flow.wanted_free rfl _)]
        refine Flow.step_value (v := .bool true) ?_ ⟨Below.refl _ _, rfl⟩
        simp [execOp, Act.eval, r64, r71, go_sem]
      | 35, ho =>
        have ho2 := Option.some.inj ho; clear ho; subst ho2
        have r72 : a.tmps.getD 72 undef = .bool true := (hk 72 (Flow.mem_looks (by kernel_rfl))).by_ 34 (by kernel_rfl) (by decide)
        rw [if_pos (Flow.wanted_free rfl _)]
        refine Flow.step_value (v := .bool true) ?_ ⟨Below.refl _ _, rfl⟩
        simp [execOp, Act.eval, r72, go_sem]
      | 36, ho =>
        have ho2 := Option.some.inj ho; clear ho; subst ho2
        have r73 : a.tmps.getD 73 undef = .bool true := (hk 73 (Flow.mem_looks (by kernel_rfl))).by_ 35 (by kernel_rfl) (by decide)
        rw [if_pos (Flow.wanted_by (t := 73) rfl (by kernel_rfl) r73)]
        refine Flow.step_call (f := 15) (args := #[]) (by simp [execOp, Act.eval, go_sem]) ?_
        refine (room_any _).mono ?_
        rintro e w1 ⟨rfl, rfl⟩
        exact ⟨_, rfl, Below.refl _ _, rfl⟩
      | 37, ho =>
        have ho2 := Option.some.inj ho; clear ho; subst ho2
        have r73 : a.tmps.getD 73 undef = .bool true := (hk 73 (Flow.mem_looks (by kernel_rfl))).by_ 35 (by kernel_rfl) (by decide)
        rw [if_pos (Flow.wanted_by (t := 73) rfl (by kernel_rfl) r73)]
        refine Flow.step_call (f := 16) (args := #[]) (by simp [execOp, Act.eval, go_sem]) ?_
        refine (refroom_any _).mono ?_
        rintro e w1 ⟨rfl, rfl⟩
        exact ⟨_, rfl, Below.refl _ _, rfl⟩
      | 38, ho =>
        have ho2 := Option.some.inj ho; clear ho; subst ho2
        have r74 : a.tmps.getD 74 undef = .int .i64 59 := (hk 74 (Flow.mem_looks (by kernel_rfl))).by_ 36 (by kernel_rfl) (by decide)
        have r75 : a.tmps.getD 75 undef = .int .i64 59 := (hk 75 (Flow.mem_looks (by kernel_rfl))).by_ 37 (by kernel_rfl) (by decide)
        have r73 : a.tmps.getD 73 undef = .bool true := (hk 73 (Flow.mem_looks (by kernel_rfl))).by_ 35 (by kernel_rfl) (by decide)
        rw [if_pos (Flow.wanted_by (t := 73) rfl (by kernel_rfl) r73)]
        refine Flow.step_value (v := .bool true) ?_ ⟨Below.refl _ _, rfl⟩
        simp [execOp, Act.eval, r74, r75, go_sem]
      | 39, ho =>
        have ho2 := Option.some.inj ho; clear ho; subst ho2
        have r73 : a.tmps.getD 73 undef = .bool true := (hk 73 (Flow.mem_looks (by kernel_rfl))).by_ 35 (by kernel_rfl) (by decide)
        have r76 : a.tmps.getD 76 undef = .bool true := (hk 76 (Flow.mem_looks (by kernel_rfl))).by_ 38 (by kernel_rfl) (by decide)
        rw [if_pos (Flow.wanted_free rfl _)]
        refine Flow.step_value (v := .bool true) ?_ ⟨Below.refl _ _, rfl⟩
        simp [execOp, Act.eval, r73, r76, go_sem]
      | 40, ho =>
        have ho2 := Option.some.inj ho; clear ho; subst ho2
        have r77 : a.tmps.getD 77 undef = .bool true := (hk 77 (Flow.mem_looks (by kernel_rfl))).by_ 39 (by kernel_rfl) (by decide)
        rw [if_pos (Flow.wanted_free rfl _)]
        refine Flow.step_value (v := .bool true) ?_ ⟨Below.refl _ _, rfl⟩
        simp [execOp, Act.eval, r77, go_sem]
      | _ + 41, ho => exact absurd ho (by simp)
    case fin =>
      intro a w5 hw5 hd5 hs5 hg hold
      have r := hg 40 _ 8 rfl rfl
      refine (‹∀ (a : Act) (w : World), Code.wp _ Code.ret _ a w → _›) _ _ ?_
      refine wp_ret ?_
      refine bodyPost_ret (results_tmp rfl _ _ _) hd5 ⟨?_, below_trans B3.out hw5 B3.out.size⟩
      exact congrArg Ending.returned r
end Go.Proofs.YtjfpmjbbgmhjgaaDoor.Crc
