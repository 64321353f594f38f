/- turntableref02.Open. -/
import Derived.Test.YtofmjnjcegcbbaaRef2
import Derived.Deep.RegionWith
import Derived.Deep.QuietTactic
import Derived.BigQuiet
import Derived.Test.YtofmjnjcegcbbaaFlow
namespace Go.Proofs.Ytofmjnjcegcbbaa.Crc
open Go.RowKit CrcMath

def G11 (A : Option Addr) (m c : Nat) (l : List Int) (q : Bool) : Nat → Value → World → Prop
  | 0 => fun v _ => v = .int .i64 m
  | 1 => fun v _ => v = .bool false
  | 2 => fun v _ => v = .bool false
  | 3 => fun v _ => v = .slice A (m + 4) c
  | 4 => fun v _ => v = .int .i64 m
  | 5 => fun v _ => v = .slice A m c
  | 6 => fun v w => ∃ A1 c1, v = .slice A1 (m + 4) c1 ∧ Rd w .u8 A1 (m + 4) c1 (shut (l.take m))
  | 7 => fun v _ => v = .string (strOfNums (shut (l.take m)))
  | 8 => fun v _ => v = .slice A (m + 4) c
  | 9 => fun v _ => v = .string (strOfNums l)
  | 10 => fun v _ => v = .bool (!q)
  | 11 => fun v _ => v = .bool (!q)
  | _ => fun _ _ => True
theorem G11_stable (A : Option Addr) (m c : Nat) (l : List Int) (q : Bool) : ∀ i v w w', G11 A m c l q i v w → Below w.heap.size w w' → G11 A m c l q i v w' := by
  intro i v w w' h hb
  match i, h with
  | 0, h => exact h
  | 1, h => exact h
  | 2, h => exact h
  | 3, h => exact h
  | 4, h => exact h
  | 5, h => exact h
  | 6, h => exact (by obtain ⟨A1, c1, e, hr⟩ := h; exact ⟨A1, c1, e, hr.below hb⟩)
  | 7, h => exact h
  | 8, h => exact h
  | 9, h => exact h
  | 10, h => exact h
  | 11, h => exact h
  | _ + 12, _ => exact trivial
set_option maxHeartbeats 1000000 in
theorem refopen_any (A : Option Addr) (n c : Nat) (l : List Int) (w : World) (hr : Rd w .u8 A n c l) (hbs : Bytes l) (hn : n ≤ 1000000) :
    Calls Try.prog 11 #[.slice A n c] w (OpenPost w (opens l) (inner l)) := by
  have hll := hr.len
  by_cases h4 : n < 4
  · have ho : opens l = false := by unfold opens; rw [hll]; exact decide_eq_false (fun h => by omega)
    have hi : inner l = [] := by unfold inner; rw [ho]; rfl
    rw [ho, hi]
    clear hr hbs ho hi hll
    have hd : decide ((n : Int) - 4 < 0) = true := decide_eq_true (by omega)
    go_enter Try.func11, Try.ntmps11
    go_wp2
    go_quiet (fail)
    go_wp2
    go_ret2
    exact ⟨⟨_, 0, rfl, World.ownsRow_nil _ _ _ _⟩, below_drewN2 (Below.refl _ _) _⟩
  · obtain ⟨m, rfl⟩ : ∃ m, n = m + 4 := ⟨n - 4, by omega⟩
    have hm : l.length - 4 = m := by omega
    have htake := hr.take m (by omega)
    have hc : m ≤ c := by have := hr.le; omega
    have hbt := take_bytes hbs m
    have ho : opens l = decide (shut (l.take m) = l) := by
      unfold opens
      rw [hm]
      exact decide_eq_decide.2 ⟨fun h => h.2, fun h => ⟨by omega, h⟩⟩
    have hi : inner l = if decide (shut (l.take m) = l) then l.take m else [] := by unfold inner; rw [ho, hm]
    rw [ho, hi]
    have htx := text_eq (shut_bytes hbt) hbs
    have HR := Lib.hid hr
    have HT := Lib.hid htake
    have HB := Lib.hid hbs
    have HBT := Lib.hid hbt
    clear hr htake hbs hbt ho hi hll hm h4
    obtain ⟨q, hq⟩ : ∃ q, q = decide (shut (l.take m) = l) := ⟨_, rfl⟩
    rw [← hq] at htx ⊢
    clear hq
    cases q with
    | false =>
      go_enter Try.func11, Try.ntmps11
      go_wp2_with fail
      refine Flow.wp_region_flow (by kernel_rfl) (G11 A m c l false) (by kernel_rfl) (G11_stable A m c l false) ?loc ?fin
      case loc =>
        intro i o ho a w hw hk
        match i, ho with
        | 0, ho =>
          have ho2 := Option.some.inj ho; clear ho; subst ho2
          have r4 : a.tmps.getD 4 undef = .int .i64 m := (hk 4 (Flow.mem_looks (by kernel_rfl))).before (by kernel_rfl)
          rw [if_pos (Flow.wanted_free rfl _)]
          refine Flow.step_value (v := .int .i64 m) ?_ ⟨Below.refl _ _, rfl⟩
          simp [execOp, Act.eval, r4, go_sem]
        | 1, ho =>
          have ho2 := Option.some.inj ho; clear ho; subst ho2
          have r8 : a.tmps.getD 8 undef = .int .i64 m := (hk 8 (Flow.mem_looks (by kernel_rfl))).by_ 0 (by kernel_rfl) (by decide)
          rw [if_pos (Flow.wanted_free rfl _)]
          refine Flow.step_value (v := .bool false) ?_ ⟨Below.refl _ _, rfl⟩
          simp [execOp, Act.eval, r8, go_sem]
        | 2, ho =>
          have ho2 := Option.some.inj ho; clear ho; subst ho2
          have r9 : a.tmps.getD 9 undef = .bool false := (hk 9 (Flow.mem_looks (by kernel_rfl))).by_ 1 (by kernel_rfl) (by decide)
          rw [if_pos (Flow.wanted_free rfl _)]
          refine Flow.step_value (v := .bool false) ?_ ⟨Below.refl _ _, rfl⟩
          simp [execOp, Act.eval, r9, go_sem]
        | 3, ho =>
          have ho2 := Option.some.inj ho; clear ho; subst ho2
          have r0 : a.tmps.getD 0 undef = .slice A (m + 4) c := (hk 0 (Flow.mem_looks (by kernel_rfl))).before (by kernel_rfl)
          have r10 : a.tmps.getD 10 undef = .bool false := (hk 10 (Flow.mem_looks (by kernel_rfl))).by_ 2 (by kernel_rfl) (by decide)
          rw [if_pos (Flow.wanted_by (t := 10) rfl (by kernel_rfl) r10)]
          refine Flow.step_value (v := .slice A (m + 4) c) ?_ ⟨Below.refl _ _, rfl⟩
          simp [execOp, Act.eval, r0, go_sem]
        | 4, ho =>
          have ho2 := Option.some.inj ho; clear ho; subst ho2
          have r4 : a.tmps.getD 4 undef = .int .i64 m := (hk 4 (Flow.mem_looks (by kernel_rfl))).before (by kernel_rfl)
          have r10 : a.tmps.getD 10 undef = .bool false := (hk 10 (Flow.mem_looks (by kernel_rfl))).by_ 2 (by kernel_rfl) (by decide)
          rw [if_pos (Flow.wanted_by (t := 10) rfl (by kernel_rfl) r10)]
          refine Flow.step_value (v := .int .i64 m) ?_ ⟨Below.refl _ _, rfl⟩
          simp [execOp, Act.eval, r4, go_sem]
        | 5, ho =>
          have ho2 := Option.some.inj ho; clear ho; subst ho2
          have r11 : a.tmps.getD 11 undef = .slice A (m + 4) c := (hk 11 (Flow.mem_looks (by kernel_rfl))).by_ 3 (by kernel_rfl) (by decide)
          have r12 : a.tmps.getD 12 undef = .int .i64 m := (hk 12 (Flow.mem_looks (by kernel_rfl))).by_ 4 (by kernel_rfl) (by decide)
          have r10 : a.tmps.getD 10 undef = .bool false := (hk 10 (Flow.mem_looks (by kernel_rfl))).by_ 2 (by kernel_rfl) (by decide)
          rw [if_pos (Flow.wanted_by (t := 10) rfl (by kernel_rfl) r10)]
          refine Flow.step_value (v := .slice A m c) ?_ ⟨Below.refl _ _, rfl⟩
          simp [execOp, Act.eval, r11, r12, go_sem, hc]
        | 6, ho =>
          have ho2 := Option.some.inj ho; clear ho; subst ho2
          have r13 : a.tmps.getD 13 undef = .slice A m c := (hk 13 (Flow.mem_looks (by kernel_rfl))).by_ 5 (by kernel_rfl) (by decide)
          have r10 : a.tmps.getD 10 undef = .bool false := (hk 10 (Flow.mem_looks (by kernel_rfl))).by_ 2 (by kernel_rfl) (by decide)
          rw [if_pos (Flow.wanted_by (t := 10) rfl (by kernel_rfl) r10)]
          refine Flow.step_call (f := 17) (args := #[.slice A m c]) (by simp [execOp, Act.eval, r13, go_sem]) ?_
          refine (refseal_any A m c (l.take m) _ (HT.out.below hw) HBT.out (by omega)).mono ?_
          rintro e w1 ⟨⟨v1, rfl, ho1⟩, hb1⟩
          obtain ⟨A1, c1, rfl, hr1, _⟩ := ho1.rd
          exact ⟨_, rfl, hb1, A1, c1, rfl, hr1⟩
        | 7, ho =>
          have ho2 := Option.some.inj ho; clear ho; subst ho2
          have r14 := (hk 14 (Flow.mem_looks (by kernel_rfl))).by_ 6 (by kernel_rfl) (by decide)
          have r10 : a.tmps.getD 10 undef = .bool false := (hk 10 (Flow.mem_looks (by kernel_rfl))).by_ 2 (by kernel_rfl) (by decide)
          rw [if_pos (Flow.wanted_by (t := 10) rfl (by kernel_rfl) r10)]
          obtain ⟨A1, c1, e1, hr1⟩ := r14
          have h1 := hr1.text (P := Try.prog) Try.underlying23 Try.underlying5 Try.underlying9
          refine Flow.step_value (v := .string (strOfNums (shut (l.take m)))) ?_ ⟨Below.refl _ _, rfl⟩
          simp [execOp, Act.eval, e1, h1, go_sem]
        | 8, ho =>
          have ho2 := Option.some.inj ho; clear ho; subst ho2
          have r0 : a.tmps.getD 0 undef = .slice A (m + 4) c := (hk 0 (Flow.mem_looks (by kernel_rfl))).before (by kernel_rfl)
          have r10 : a.tmps.getD 10 undef = .bool false := (hk 10 (Flow.mem_looks (by kernel_rfl))).by_ 2 (by kernel_rfl) (by decide)
          rw [if_pos (Flow.wanted_by (t := 10) rfl (by kernel_rfl) r10)]
          refine Flow.step_value (v := .slice A (m + 4) c) ?_ ⟨Below.refl _ _, rfl⟩
          simp [execOp, Act.eval, r0, go_sem]
        | 9, ho =>
          have ho2 := Option.some.inj ho; clear ho; subst ho2
          have r16 : a.tmps.getD 16 undef = .slice A (m + 4) c := (hk 16 (Flow.mem_looks (by kernel_rfl))).by_ 8 (by kernel_rfl) (by decide)
          have r10 : a.tmps.getD 10 undef = .bool false := (hk 10 (Flow.mem_looks (by kernel_rfl))).by_ 2 (by kernel_rfl) (by decide)
          rw [if_pos (Flow.wanted_by (t := 10) rfl (by kernel_rfl) r10)]
          have h1 := (HR.out.below hw).text (P := Try.prog) Try.underlying23 Try.underlying5 Try.underlying9
          refine Flow.step_value (v := .string (strOfNums l)) ?_ ⟨Below.refl _ _, rfl⟩
          simp [execOp, Act.eval, r16, h1, go_sem]
        | 10, ho =>
          have ho2 := Option.some.inj ho; clear ho; subst ho2
          have r15 : a.tmps.getD 15 undef = .string (strOfNums (shut (l.take m))) := (hk 15 (Flow.mem_looks (by kernel_rfl))).by_ 7 (by kernel_rfl) (by decide)
          have r17 : a.tmps.getD 17 undef = .string (strOfNums l) := (hk 17 (Flow.mem_looks (by kernel_rfl))).by_ 9 (by kernel_rfl) (by decide)
          have r10 : a.tmps.getD 10 undef = .bool false := (hk 10 (Flow.mem_looks (by kernel_rfl))).by_ 2 (by kernel_rfl) (by decide)
          rw [if_pos (Flow.wanted_by (t := 10) rfl (by kernel_rfl) r10)]
          refine Flow.step_value (v := .bool (!false)) ?_ ⟨Below.refl _ _, rfl⟩
          simp [execOp, Act.eval, r15, r17, htx, go_sem]
        | 11, ho =>
          have ho2 := Option.some.inj ho; clear ho; subst ho2
          have r10 : a.tmps.getD 10 undef = .bool false := (hk 10 (Flow.mem_looks (by kernel_rfl))).by_ 2 (by kernel_rfl) (by decide)
          have r18 : a.tmps.getD 18 undef = .bool (!false) := (hk 18 (Flow.mem_looks (by kernel_rfl))).by_ 10 (by kernel_rfl) (by decide)
          rw [if_pos (Flow.wanted_free rfl _)]
          refine Flow.step_value (v := .bool (!false)) ?_ ⟨Below.refl _ _, rfl⟩
          simp [execOp, Act.eval, r10, r18, go_sem]
        | _ + 12, ho => exact absurd ho (by simp)
      case fin =>
        intro a w2 hw2 hd hs hg hold
        obtain ⟨A1, c1, e14, hr14⟩ := hg 6 _ 14 rfl rfl
        have ea := Flow.act_eq (a := a) [.slice A (m + 4) c, undef, .slice none 0 0, .bool false, .int .i64 m, .slice A (m + 4) c, .int .i64 (m + 4), .int .i64 m, .int .i64 m, .bool false, .bool false, .slice A (m + 4) c, .int .i64 m, .slice A m c, .slice A1 (m + 4) c1, .string (strOfNums (shut (l.take m))), .slice A (m + 4) c, .string (strOfNums l), .bool (!false), .bool (!false), undef, undef, undef, undef, undef] hs hd (by
          intro t ht
          match t, ht with
          | 0, _ => exact Flow.old_at hold 0 (by kernel_rfl)
          | 1, _ => exact Flow.old_at hold 1 (by kernel_rfl)
          | 2, _ => exact Flow.old_at hold 2 (by kernel_rfl)
          | 3, _ => exact Flow.old_at hold 3 (by kernel_rfl)
          | 4, _ => exact Flow.old_at hold 4 (by kernel_rfl)
          | 5, _ => exact Flow.old_at hold 5 (by kernel_rfl)
          | 6, _ => exact Flow.old_at hold 6 (by kernel_rfl)
          | 7, _ => exact Flow.old_at hold 7 (by kernel_rfl)
          | 8, _ => exact hg 0 _ 8 rfl rfl
          | 9, _ => exact hg 1 _ 9 rfl rfl
          | 10, _ => exact hg 2 _ 10 rfl rfl
          | 11, _ => exact hg 3 _ 11 rfl rfl
          | 12, _ => exact hg 4 _ 12 rfl rfl
          | 13, _ => exact hg 5 _ 13 rfl rfl
          | 14, _ => exact e14
          | 15, _ => exact hg 7 _ 15 rfl rfl
          | 16, _ => exact hg 8 _ 16 rfl rfl
          | 17, _ => exact hg 9 _ 17 rfl rfl
          | 18, _ => exact hg 10 _ 18 rfl rfl
          | 19, _ => exact hg 11 _ 19 rfl rfl
          | 20, _ => exact Flow.old_at hold 20 (by kernel_rfl)
          | 21, _ => exact Flow.old_at hold 21 (by kernel_rfl)
          | 22, _ => exact Flow.old_at hold 22 (by kernel_rfl)
          | 23, _ => exact Flow.old_at hold 23 (by kernel_rfl)
          | 24, _ => exact Flow.old_at hold 24 (by kernel_rfl)
          | t + 25, ht => exact absurd ht (by simp))
        rw [ea]
        clear ea hd hs hg hold e14
        refine (‹∀ (a : Act) (w : World), Code.wp _ _ _ a w → _›) _ _ ?_
        have HW2 := Lib.hid hw2
        clear hw2
        go_wp2
        go_ret2
        exact ⟨⟨_, 0, rfl, World.ownsRow_nil _ _ _ _⟩, HW2.out⟩
    | true =>
      go_enter Try.func11, Try.ntmps11
      go_wp2_with fail
      refine Flow.wp_region_flow (by kernel_rfl) (G11 A m c l true) (by kernel_rfl) (G11_stable A m c l true) ?loc ?fin
      case loc =>
        intro i o ho a w hw hk
        match i, ho with
        | 0, ho =>
          have ho2 := Option.some.inj ho; clear ho; subst ho2
          have r4 : a.tmps.getD 4 undef = .int .i64 m := (hk 4 (Flow.mem_looks (by kernel_rfl))).before (by kernel_rfl)
          rw [if_pos (Flow.wanted_free rfl _)]
          refine Flow.step_value (v := .int .i64 m) ?_ ⟨Below.refl _ _, rfl⟩
          simp [execOp, Act.eval, r4, go_sem]
        | 1, ho =>
          have ho2 := Option.some.inj ho; clear ho; subst ho2
          have r8 : a.tmps.getD 8 undef = .int .i64 m := (hk 8 (Flow.mem_looks (by kernel_rfl))).by_ 0 (by kernel_rfl) (by decide)
          rw [if_pos (Flow.wanted_free rfl _)]
          refine Flow.step_value (v := .bool false) ?_ ⟨Below.refl _ _, rfl⟩
          simp [execOp, Act.eval, r8, go_sem]
        | 2, ho =>
          have ho2 := Option.some.inj ho; clear ho; subst ho2
          have r9 : a.tmps.getD 9 undef = .bool false := (hk 9 (Flow.mem_looks (by kernel_rfl))).by_ 1 (by kernel_rfl) (by decide)
          rw [if_pos (Flow.wanted_free rfl _)]
          refine Flow.step_value (v := .bool false) ?_ ⟨Below.refl _ _, rfl⟩
          simp [execOp, Act.eval, r9, go_sem]
        | 3, ho =>
          have ho2 := Option.some.inj ho; clear ho; subst ho2
          have r0 : a.tmps.getD 0 undef = .slice A (m + 4) c := (hk 0 (Flow.mem_looks (by kernel_rfl))).before (by kernel_rfl)
          have r10 : a.tmps.getD 10 undef = .bool false := (hk 10 (Flow.mem_looks (by kernel_rfl))).by_ 2 (by kernel_rfl) (by decide)
          rw [if_pos (Flow.wanted_by (t := 10) rfl (by kernel_rfl) r10)]
          refine Flow.step_value (v := .slice A (m + 4) c) ?_ ⟨Below.refl _ _, rfl⟩
          simp [execOp, Act.eval, r0, go_sem]
        | 4, ho =>
          have ho2 := Option.some.inj ho; clear ho; subst ho2
          have r4 : a.tmps.getD 4 undef = .int .i64 m := (hk 4 (Flow.mem_looks (by kernel_rfl))).before (by kernel_rfl)
          have r10 : a.tmps.getD 10 undef = .bool false := (hk 10 (Flow.mem_looks (by kernel_rfl))).by_ 2 (by kernel_rfl) (by decide)
          rw [if_pos (Flow.wanted_by (t := 10) rfl (by kernel_rfl) r10)]
          refine Flow.step_value (v := .int .i64 m) ?_ ⟨Below.refl _ _, rfl⟩
          simp [execOp, Act.eval, r4, go_sem]
        | 5, ho =>
          have ho2 := Option.some.inj ho; clear ho; subst ho2
          have r11 : a.tmps.getD 11 undef = .slice A (m + 4) c := (hk 11 (Flow.mem_looks (by kernel_rfl))).by_ 3 (by kernel_rfl) (by decide)
          have r12 : a.tmps.getD 12 undef = .int .i64 m := (hk 12 (Flow.mem_looks (by kernel_rfl))).by_ 4 (by kernel_rfl) (by decide)
          have r10 : a.tmps.getD 10 undef = .bool false := (hk 10 (Flow.mem_looks (by kernel_rfl))).by_ 2 (by kernel_rfl) (by decide)
          rw [if_pos (Flow.wanted_by (t := 10) rfl (by kernel_rfl) r10)]
          refine Flow.step_value (v := .slice A m c) ?_ ⟨Below.refl _ _, rfl⟩
          simp [execOp, Act.eval, r11, r12, go_sem, hc]
        | 6, ho =>
          have ho2 := Option.some.inj ho; clear ho; subst ho2
          have r13 : a.tmps.getD 13 undef = .slice A m c := (hk 13 (Flow.mem_looks (by kernel_rfl))).by_ 5 (by kernel_rfl) (by decide)
          have r10 : a.tmps.getD 10 undef = .bool false := (hk 10 (Flow.mem_looks (by kernel_rfl))).by_ 2 (by kernel_rfl) (by decide)
          rw [if_pos (Flow.wanted_by (t := 10) rfl (by kernel_rfl) r10)]
          refine Flow.step_call (f := 17) (args := #[.slice A m c]) (by simp [execOp, Act.eval, r13, go_sem]) ?_
          refine (refseal_any A m c (l.take m) _ (HT.out.below hw) HBT.out (by omega)).mono ?_
          rintro e w1 ⟨⟨v1, rfl, ho1⟩, hb1⟩
          obtain ⟨A1, c1, rfl, hr1, _⟩ := ho1.rd
          exact ⟨_, rfl, hb1, A1, c1, rfl, hr1⟩
        | 7, ho =>
          have ho2 := Option.some.inj ho; clear ho; subst ho2
          have r14 := (hk 14 (Flow.mem_looks (by kernel_rfl))).by_ 6 (by kernel_rfl) (by decide)
          have r10 : a.tmps.getD 10 undef = .bool false := (hk 10 (Flow.mem_looks (by kernel_rfl))).by_ 2 (by kernel_rfl) (by decide)
          rw [if_pos (Flow.wanted_by (t := 10) rfl (by kernel_rfl) r10)]
          obtain ⟨A1, c1, e1, hr1⟩ := r14
          have h1 := hr1.text (P := Try.prog) Try.underlying23 Try.underlying5 Try.underlying9
          refine Flow.step_value (v := .string (strOfNums (shut (l.take m)))) ?_ ⟨Below.refl _ _, rfl⟩
          simp [execOp, Act.eval, e1, h1, go_sem]
        | 8, ho =>
          have ho2 := Option.some.inj ho; clear ho; subst ho2
          have r0 : a.tmps.getD 0 undef = .slice A (m + 4) c := (hk 0 (Flow.mem_looks (by kernel_rfl))).before (by kernel_rfl)
          have r10 : a.tmps.getD 10 undef = .bool false := (hk 10 (Flow.mem_looks (by kernel_rfl))).by_ 2 (by kernel_rfl) (by decide)
          rw [if_pos (Flow.wanted_by (t := 10) rfl (by kernel_rfl) r10)]
          refine Flow.step_value (v := .slice A (m + 4) c) ?_ ⟨Below.refl _ _, rfl⟩
          simp [execOp, Act.eval, r0, go_sem]
        | 9, ho =>
          have ho2 := Option.some.inj ho; clear ho; subst ho2
          have r16 : a.tmps.getD 16 undef = .slice A (m + 4) c := (hk 16 (Flow.mem_looks (by kernel_rfl))).by_ 8 (by kernel_rfl) (by decide)
          have r10 : a.tmps.getD 10 undef = .bool false := (hk 10 (Flow.mem_looks (by kernel_rfl))).by_ 2 (by kernel_rfl) (by decide)
          rw [if_pos (Flow.wanted_by (t := 10) rfl (by kernel_rfl) r10)]
          have h1 := (HR.out.below hw).text (P := Try.prog) Try.underlying23 Try.underlying5 Try.underlying9
          refine Flow.step_value (v := .string (strOfNums l)) ?_ ⟨Below.refl _ _, rfl⟩
          simp [execOp, Act.eval, r16, h1, go_sem]
        | 10, ho =>
          have ho2 := Option.some.inj ho; clear ho; subst ho2
          have r15 : a.tmps.getD 15 undef = .string (strOfNums (shut (l.take m))) := (hk 15 (Flow.mem_looks (by kernel_rfl))).by_ 7 (by kernel_rfl) (by decide)
          have r17 : a.tmps.getD 17 undef = .string (strOfNums l) := (hk 17 (Flow.mem_looks (by kernel_rfl))).by_ 9 (by kernel_rfl) (by decide)
          have r10 : a.tmps.getD 10 undef = .bool false := (hk 10 (Flow.mem_looks (by kernel_rfl))).by_ 2 (by kernel_rfl) (by decide)
          rw [if_pos (Flow.wanted_by (t := 10) rfl (by kernel_rfl) r10)]
          refine Flow.step_value (v := .bool (!true)) ?_ ⟨Below.refl _ _, rfl⟩
          simp [execOp, Act.eval, r15, r17, htx, go_sem]
        | 11, ho =>
          have ho2 := Option.some.inj ho; clear ho; subst ho2
          have r10 : a.tmps.getD 10 undef = .bool false := (hk 10 (Flow.mem_looks (by kernel_rfl))).by_ 2 (by kernel_rfl) (by decide)
          have r18 : a.tmps.getD 18 undef = .bool (!true) := (hk 18 (Flow.mem_looks (by kernel_rfl))).by_ 10 (by kernel_rfl) (by decide)
          rw [if_pos (Flow.wanted_free rfl _)]
          refine Flow.step_value (v := .bool (!true)) ?_ ⟨Below.refl _ _, rfl⟩
          simp [execOp, Act.eval, r10, r18, go_sem]
        | _ + 12, ho => exact absurd ho (by simp)
      case fin =>
        intro a w2 hw2 hd hs hg hold
        obtain ⟨A1, c1, e14, hr14⟩ := hg 6 _ 14 rfl rfl
        have ea := Flow.act_eq (a := a) [.slice A (m + 4) c, undef, .slice none 0 0, .bool false, .int .i64 m, .slice A (m + 4) c, .int .i64 (m + 4), .int .i64 m, .int .i64 m, .bool false, .bool false, .slice A (m + 4) c, .int .i64 m, .slice A m c, .slice A1 (m + 4) c1, .string (strOfNums (shut (l.take m))), .slice A (m + 4) c, .string (strOfNums l), .bool (!true), .bool (!true), undef, undef, undef, undef, undef] hs hd (by
          intro t ht
          match t, ht with
          | 0, _ => exact Flow.old_at hold 0 (by kernel_rfl)
          | 1, _ => exact Flow.old_at hold 1 (by kernel_rfl)
          | 2, _ => exact Flow.old_at hold 2 (by kernel_rfl)
          | 3, _ => exact Flow.old_at hold 3 (by kernel_rfl)
          | 4, _ => exact Flow.old_at hold 4 (by kernel_rfl)
          | 5, _ => exact Flow.old_at hold 5 (by kernel_rfl)
          | 6, _ => exact Flow.old_at hold 6 (by kernel_rfl)
          | 7, _ => exact Flow.old_at hold 7 (by kernel_rfl)
          | 8, _ => exact hg 0 _ 8 rfl rfl
          | 9, _ => exact hg 1 _ 9 rfl rfl
          | 10, _ => exact hg 2 _ 10 rfl rfl
          | 11, _ => exact hg 3 _ 11 rfl rfl
          | 12, _ => exact hg 4 _ 12 rfl rfl
          | 13, _ => exact hg 5 _ 13 rfl rfl
          | 14, _ => exact e14
          | 15, _ => exact hg 7 _ 15 rfl rfl
          | 16, _ => exact hg 8 _ 16 rfl rfl
          | 17, _ => exact hg 9 _ 17 rfl rfl
          | 18, _ => exact hg 10 _ 18 rfl rfl
          | 19, _ => exact hg 11 _ 19 rfl rfl
          | 20, _ => exact Flow.old_at hold 20 (by kernel_rfl)
          | 21, _ => exact Flow.old_at hold 21 (by kernel_rfl)
          | 22, _ => exact Flow.old_at hold 22 (by kernel_rfl)
          | 23, _ => exact Flow.old_at hold 23 (by kernel_rfl)
          | 24, _ => exact Flow.old_at hold 24 (by kernel_rfl)
          | t + 25, ht => exact absurd ht (by simp))
        rw [ea]
        clear ea hd hs hg hold e14
        refine (‹∀ (a : Act) (w : World), Code.wp _ _ _ a w → _›) _ _ ?_
        have HW2 := Lib.hid hw2
        clear hw2
        have hsz2 : w.heap.size ≤ w2.heap.size := HW2.out.size
        go_wp2_with (at_builtin; refine append_rd rfl (.tmp 20) (.tmp 23) rfl w2.heap.size _ 0 [] rfl (Own.empty w2 .u8 5 (Nat.le_refl _)) A m c (l.take m) rfl ((HT.out.below HW2.out).below ((Below.refl _ _).alloc (Nat.le_refl _) _)) (by omega) (by simp) ?_; intro v3 w3 hown hg; have H1 := Lib.hid hown; have H2 := Lib.hid hg; clear hown hg)
        go_ret2
        have hb3 := below_grown ((Below.refl w2.heap.size w2).alloc (Nat.le_refl _) _) H2.out (by simp) (Own.empty w2 .u8 5 (Nat.le_refl _)).ge
        exact ⟨⟨_, _, rfl, by have := H1.out.lower hsz2; simpa using this⟩, below_trans HW2.out hb3 hsz2⟩
end Go.Proofs.Ytofmjnjcegcbbaa.Crc
