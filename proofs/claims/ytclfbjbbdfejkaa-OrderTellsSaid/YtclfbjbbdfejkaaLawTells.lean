/- OrderTells. -/
import Derived.Test.YtclfbjbbdfejkaaOW
namespace Go.Proofs.Ytclfbjbbdfejkaa.Ord
open Go.RowKit

def G3 (_Ba _Bb : Nat) (A : Option Addr) (n c : Nat) (L : List Item) (xa xb : Item) (A1 A2 : Option Addr) (c1 c2 : Nat) (V : List Int) (ok : Bool) (ca cp : Int) : Nat → Value → World → Prop
  | 0 => fun v _ => v = .bool true
  | 1 => fun v _ => v = .bool true
  | 2 => fun v _ => v = .agg xa.cells.toArray
  | 3 => fun v _ => v = .bool (right xa)
  | 4 => fun v _ => v = .agg xa.cells.toArray
  | 5 => fun v _ => v = .bool (right xa)
  | 6 => fun v _ => v = .bool true
  | 7 => fun v _ => v = .bool true
  | 8 => fun v _ => v = .bool true
  | 9 => fun v _ => v = .agg xa.cells.toArray
  | 10 => fun v _ => v = .agg xb.cells.toArray
  | 11 => fun v _ => v = .bool (first xa xb)
  | 12 => fun v _ => v = .agg xa.cells.toArray
  | 13 => fun v _ => v = .agg xb.cells.toArray
  | 14 => fun v _ => v = .bool (first xa xb)
  | 15 => fun v _ => v = .bool true
  | 16 => fun v _ => v = .bool true
  | 17 => fun v _ => v = .bool true
  | 18 => fun v _ => v = .slice A n c
  | 19 => fun v w => ∃ A c, v = .slice A (srt L).length c ∧ Its w A (srt L).length c (srt L)
  | 20 => fun v _ => v = .slice A n c
  | 21 => fun v w => ∃ A c, v = .slice A (srt L).length c ∧ Its w A (srt L).length c (srt L)
  | 22 => fun v _ => v = .bool true
  | 23 => fun v _ => v = .bool true
  | 24 => fun v _ => v = .bool true
  | 25 => fun v _ => v = .slice A1 V.length c1
  | 26 => fun v _ => v = .slice A2 V.length c2
  | 27 => fun v _ => v = .bool true
  | 28 => fun v _ => v = .bool true
  | 29 => fun v _ => v = .bool true
  | 30 => fun v _ => v = .bool ok
  | 31 => fun v _ => v = .bool ok
  | 32 => fun v _ => v = .bool true
  | 33 => fun v _ => v = .bool true
  | 34 => fun v _ => v = .bool true
  | 35 => fun v _ => v = .int .i64 ca
  | 36 => fun v _ => v = .int .i64 ca
  | 37 => fun v _ => v = .bool true
  | 38 => fun v _ => v = .bool true
  | 39 => fun v _ => v = .bool true
  | 40 => fun v _ => v = .int .i64 cp
  | 41 => fun v _ => v = .int .i64 cp
  | 42 => fun v _ => v = .bool true
  | 43 => fun v _ => v = .bool true
  | 44 => fun v _ => v = .bool true
  | _ => fun _ _ => True
theorem G3_stable (Ba Bb : Nat) (A : Option Addr) (n c : Nat) (L : List Item) (xa xb : Item) (A1 A2 : Option Addr) (c1 c2 : Nat) (V : List Int) (ok : Bool) (ca cp : Int) : ∀ i v w w', G3 Ba Bb A n c L xa xb A1 A2 c1 c2 V ok ca cp i v w → Below w.heap.size w w' → G3 Ba Bb A n c L xa xb A1 A2 c1 c2 V ok ca cp i v w' := by
  intro i v w w' h hb
  match i, h with
  | 0, h => exact h
  | 1, h => exact h
  | 2, h => exact h
  | 3, h => exact h
  | 4, h => exact h
  | 5, h => exact h
  | 6, h => exact h
  | 7, h => exact h
  | 8, h => exact h
  | 9, h => exact h
  | 10, h => exact h
  | 11, h => exact h
  | 12, h => exact h
  | 13, h => exact h
  | 14, h => exact h
  | 15, h => exact h
  | 16, h => exact h
  | 17, h => exact h
  | 18, h => exact h
  | 19, h => exact (by obtain ⟨A, c, e, hr⟩ := h; exact ⟨A, c, e, hr.below hb⟩)
  | 20, h => exact h
  | 21, h => exact (by obtain ⟨A, c, e, hr⟩ := h; exact ⟨A, c, e, hr.below hb⟩)
  | 22, h => exact h
  | 23, h => exact h
  | 24, h => exact h
  | 25, h => exact h
  | 26, h => exact h
  | 27, h => exact h
  | 28, h => exact h
  | 29, h => exact h
  | 30, h => exact h
  | 31, h => exact h
  | 32, h => exact h
  | 33, h => exact h
  | 34, h => exact h
  | 35, h => exact h
  | 36, h => exact h
  | 37, h => exact h
  | 38, h => exact h
  | 39, h => exact h
  | 40, h => exact h
  | 41, h => exact h
  | 42, h => exact h
  | 43, h => exact h
  | 44, h => exact h
  | _ + 45, _ => exact trivial
set_option maxRecDepth 100000 in
set_option maxHeartbeats 8000000 in
theorem OrderTells_walk (A : Option Addr) (n c : Nat) (L : List Item) (xa xb : Item) (inn most : Int) (w : World) (hE : Its w A n c L) :
    Calls Try.prog 3 #[.slice A n c, .agg xa.cells.toArray, .agg xb.cells.toArray, .int .i64 inn, .int .i64 most] w (SayB w true) := by
  obtain ⟨X, hX⟩ : ∃ X, X = xa.cells.toArray := ⟨_, rfl⟩
  obtain ⟨Y, hY⟩ : ∃ Y, Y = xb.cells.toArray := ⟨_, rfl⟩
  rw [← hX, ← hY]
  have HX := Lib.hid hX
  have HY := Lib.hid hY
  have HE := Lib.hid hE
  have hle := hE.le
  have hsm := hE.small
  obtain ⟨V, hV⟩ : ∃ V, V = vicL L inn most := ⟨_, rfl⟩
  obtain ⟨ok, hok⟩ : ∃ V, V = vicOk L inn most := ⟨_, rfl⟩
  obtain ⟨ca, hca⟩ : ∃ V, V = costA L := ⟨_, rfl⟩
  obtain ⟨cp, hcp⟩ : ∃ V, V = costP L := ⟨_, rfl⟩
  have HV1 := Lib.hid (victims_any A n c L inn most)
  have HV2 := Lib.hid (refvictims_any A n c L inn most)
  have HC1 := Lib.hid (cost_any A n c L)
  have HC2 := Lib.hid (refcost_any A n c L)
  unfold VicPost at HV1 HV2
  unfold CostPost at HC1 HC2
  rw [← hV, ← hok] at HV1 HV2
  rw [← hca, ← hcp] at HC1 HC2
  clear hX hY hE hV hok hca hcp
  go_enter Try.func3, Try.ntmps3
  go_upto_region 1 with (fail)
  obtain ⟨W2, hW2⟩ : ∃ W, W = (w.alloc (.cells X 24)).alloc (.cells Y 24) := ⟨_, rfl⟩
  rw [← hW2]
  have e2 : Below w.heap.size w W2 := by rw [hW2]; exact ((Below.refl _ _).alloc (Nat.le_refl _) _).alloc (by simp) _
  have B2 := Lib.hid e2
  have HL2 := Lib.hid (HE.out.below e2)
  obtain ⟨Ba, hBa⟩ : ∃ b, b = w.heap.size := ⟨_, rfl⟩
  obtain ⟨Bb, hBb⟩ : ∃ b, b = w.heap.size + 1 := ⟨_, rfl⟩
  rw [← hBb, ← hBa]
  have HA2 := Lib.hid (show At W2 Ba 0 xa.cells from at_item (t := 24) (by rw [hW2, hBa, ← HX.out]; exact heap_alloc2_old _ _ _))
  have HB2 := Lib.hid (show At W2 Bb 0 xb.cells from at_item (t := 24) (by rw [hW2, hBb, ← HY.out]; exact heap_alloc2_new _ _ _))
  clear hW2 hBa hBb e2
  go_wp2_with fail
  refine (head_any W2).mono ?_
  rintro r W3 ⟨rfl, hb3⟩
  have B3 := Lib.hid (below_trans B2.out hb3 B2.out.size)
  have HL3 := Lib.hid (HL2.out.below hb3)
  have HA3 := Lib.hid (HA2.out.below hb3)
  have HB3 := Lib.hid (HB2.out.below hb3)
  clear hb3
  by_cases h3 : 300 < n
  · have hk3 : 300 < (n : Int) := by omega
    go_wp2
    go_ret
    exact ⟨rfl, B3.out⟩
  · have hk3 : ¬ 300 < (n : Int) := by omega
    go_wp2_with fail
    refine (HV1.out W3 HL3.out (by omega)).mono ?_
    rintro r W4 ⟨v1, rfl, ho1, hb4⟩
    obtain ⟨A1, c1, rfl, hr1, _⟩ := ho1.rd
    have H14 := Lib.hid hr1
    have B4 := Lib.hid (below_trans B3.out hb4 B3.out.size)
    have HL4 := Lib.hid (HL3.out.below hb4)
    have HA4 := Lib.hid (HA3.out.below hb4)
    have HB4 := Lib.hid (HB3.out.below hb4)
    clear hb4 ho1 hr1
    go_wp2_with fail
    refine (HV2.out W4 HL4.out (by omega)).mono ?_
    rintro r W5 ⟨v2, rfl, ho2, hb5⟩
    obtain ⟨A2, c2, rfl, hr2, _⟩ := ho2.rd
    have H25 := Lib.hid hr2
    have H15 := Lib.hid (H14.out.below hb5)
    have B5 := Lib.hid (below_trans B4.out hb5 B4.out.size)
    have HL5 := Lib.hid (HL4.out.below hb5)
    have HA5 := Lib.hid (HA4.out.below hb5)
    have HB5 := Lib.hid (HB4.out.below hb5)
    clear hb5 ho2 hr2
    go_wp2_with fail
    refine (HC1.out W5 HL5.out (by omega)).mono ?_
    rintro r W6 ⟨rfl, hb6⟩
    have H26 := Lib.hid (H25.out.below hb6)
    have H16 := Lib.hid (H15.out.below hb6)
    have B6 := Lib.hid (below_trans B5.out hb6 B5.out.size)
    have HL6 := Lib.hid (HL5.out.below hb6)
    have HA6 := Lib.hid (HA5.out.below hb6)
    have HB6 := Lib.hid (HB5.out.below hb6)
    clear hb6
    go_wp2_with fail
    refine (HC2.out W6 HL6.out (by omega)).mono ?_
    rintro r W7 ⟨rfl, hb7⟩
    have H2 := Lib.hid (H26.out.below hb7)
    have H1 := Lib.hid (H16.out.below hb7)
    have B7 := Lib.hid (below_trans B6.out hb7 B6.out.size)
    have HL := Lib.hid (HL6.out.below hb7)
    have HA := Lib.hid (HA6.out.below hb7)
    have HB := Lib.hid (HB6.out.below hb7)
    clear hb7
    go_wp2_with fail
    refine Flow.wp_region_flow (by kernel_rfl) (G3 Ba Bb A n c L xa xb A1 A2 c1 c2 V ok ca cp) (by kernel_rfl) (G3_stable Ba Bb A n c L xa xb A1 A2 c1 c2 V ok ca cp) ?loc ?fin
    case loc =>
      intro i o ho a w hw hk
      match i, ho with
      | 0, ho =>
        have ho2 := Option.some.inj ho; clear ho; subst ho2
        have r11 : a.tmps.getD 11 undef = .bool true := (hk 11 (Flow.mem_looks (by kernel_rfl))).before (by kernel_rfl)
        rw [if_pos (Flow.wanted_free rfl _)]
        refine Flow.step_value (v := .bool true) ?_ ⟨Below.refl _ _, rfl⟩
        simp [execOp, Act.eval, r11, go_sem]
      | 1, ho =>
        have ho2 := Option.some.inj ho; clear ho; subst ho2
        have r49 : a.tmps.getD 49 undef = .bool true := (hk 49 (Flow.mem_looks (by kernel_rfl))).by_ 0 (by kernel_rfl) (by decide)
        rw [if_pos (Flow.wanted_free rfl _)]
        refine Flow.step_value (v := .bool true) ?_ ⟨Below.refl _ _, rfl⟩
        simp [execOp, Act.eval, r49, go_sem]
      | 2, ho =>
        have ho2 := Option.some.inj ho; clear ho; subst ho2
        have r6 : a.tmps.getD 6 undef = .pointer (some ⟨Ba, 0, none⟩) := (hk 6 (Flow.mem_looks (by kernel_rfl))).before (by kernel_rfl)
        have r50 : a.tmps.getD 50 undef = .bool true := (hk 50 (Flow.mem_looks (by kernel_rfl))).by_ 1 (by kernel_rfl) (by decide)
        rw [if_pos (Flow.wanted_by (t := 50) rfl (by kernel_rfl) r50)]
        refine step_load_mid 24 (.tmp 6) rfl Ba 0 r6 xa.cells _ (HA.out.below hw).range Try.underlying24 rfl (item_info xa) ⟨Below.refl _ _, rfl⟩
      | 3, ho =>
        have ho2 := Option.some.inj ho; clear ho; subst ho2
        have r51 : a.tmps.getD 51 undef = .agg xa.cells.toArray := (hk 51 (Flow.mem_looks (by kernel_rfl))).by_ 2 (by kernel_rfl) (by decide)
        have r50 : a.tmps.getD 50 undef = .bool true := (hk 50 (Flow.mem_looks (by kernel_rfl))).by_ 1 (by kernel_rfl) (by decide)
        rw [if_pos (Flow.wanted_by (t := 50) rfl (by kernel_rfl) r50)]
        refine Flow.step_call (f := 13) (args := #[.agg xa.cells.toArray]) (by simp [execOp, Act.eval, r51, go_sem]) ?_
        refine (right_any xa w).mono ?_
        rintro r w1 ⟨rfl, hb1⟩
        exact ⟨_, rfl, hb1, rfl⟩
      | 4, ho =>
        have ho2 := Option.some.inj ho; clear ho; subst ho2
        have r6 : a.tmps.getD 6 undef = .pointer (some ⟨Ba, 0, none⟩) := (hk 6 (Flow.mem_looks (by kernel_rfl))).before (by kernel_rfl)
        have r50 : a.tmps.getD 50 undef = .bool true := (hk 50 (Flow.mem_looks (by kernel_rfl))).by_ 1 (by kernel_rfl) (by decide)
        rw [if_pos (Flow.wanted_by (t := 50) rfl (by kernel_rfl) r50)]
        refine step_load_mid 24 (.tmp 6) rfl Ba 0 r6 xa.cells _ (HA.out.below hw).range Try.underlying24 rfl (item_info xa) ⟨Below.refl _ _, rfl⟩
      | 5, ho =>
        have ho2 := Option.some.inj ho; clear ho; subst ho2
        have r53 : a.tmps.getD 53 undef = .agg xa.cells.toArray := (hk 53 (Flow.mem_looks (by kernel_rfl))).by_ 4 (by kernel_rfl) (by decide)
        have r50 : a.tmps.getD 50 undef = .bool true := (hk 50 (Flow.mem_looks (by kernel_rfl))).by_ 1 (by kernel_rfl) (by decide)
        rw [if_pos (Flow.wanted_by (t := 50) rfl (by kernel_rfl) r50)]
        refine Flow.step_call (f := 14) (args := #[.agg xa.cells.toArray]) (by simp [execOp, Act.eval, r53, go_sem]) ?_
        refine (refright_any xa w).mono ?_
        rintro r w1 ⟨rfl, hb1⟩
        exact ⟨_, rfl, hb1, rfl⟩
      | 6, ho =>
        have ho2 := Option.some.inj ho; clear ho; subst ho2
        have r52 : a.tmps.getD 52 undef = .bool (right xa) := (hk 52 (Flow.mem_looks (by kernel_rfl))).by_ 3 (by kernel_rfl) (by decide)
        have r54 : a.tmps.getD 54 undef = .bool (right xa) := (hk 54 (Flow.mem_looks (by kernel_rfl))).by_ 5 (by kernel_rfl) (by decide)
        have r50 : a.tmps.getD 50 undef = .bool true := (hk 50 (Flow.mem_looks (by kernel_rfl))).by_ 1 (by kernel_rfl) (by decide)
        rw [if_pos (Flow.wanted_by (t := 50) rfl (by kernel_rfl) r50)]
        refine Flow.step_value (v := .bool true) ?_ ⟨Below.refl _ _, rfl⟩
        simp [execOp, Act.eval, r52, r54, go_sem]
      | 7, ho =>
        have ho2 := Option.some.inj ho; clear ho; subst ho2
        have r50 : a.tmps.getD 50 undef = .bool true := (hk 50 (Flow.mem_looks (by kernel_rfl))).by_ 1 (by kernel_rfl) (by decide)
        have r55 : a.tmps.getD 55 undef = .bool true := (hk 55 (Flow.mem_looks (by kernel_rfl))).by_ 6 (by kernel_rfl) (by decide)
        rw [if_pos (Flow.wanted_free rfl _)]
        refine Flow.step_value (v := .bool true) ?_ ⟨Below.refl _ _, rfl⟩
        simp [execOp, Act.eval, r50, r55, go_sem]
      | 8, ho =>
        have ho2 := Option.some.inj ho; clear ho; subst ho2
        have r56 : a.tmps.getD 56 undef = .bool true := (hk 56 (Flow.mem_looks (by kernel_rfl))).by_ 7 (by kernel_rfl) (by decide)
        rw [if_pos (Flow.wanted_free rfl _)]
        refine Flow.step_value (v := .bool true) ?_ ⟨Below.refl _ _, rfl⟩
        simp [execOp, Act.eval, r56, go_sem]
      | 9, ho =>
        have ho2 := Option.some.inj ho; clear ho; subst ho2
        have r6 : a.tmps.getD 6 undef = .pointer (some ⟨Ba, 0, none⟩) := (hk 6 (Flow.mem_looks (by kernel_rfl))).before (by kernel_rfl)
        have r57 : a.tmps.getD 57 undef = .bool true := (hk 57 (Flow.mem_looks (by kernel_rfl))).by_ 8 (by kernel_rfl) (by decide)
        rw [if_pos (Flow.wanted_by (t := 57) rfl (by kernel_rfl) r57)]
        refine step_load_mid 24 (.tmp 6) rfl Ba 0 r6 xa.cells _ (HA.out.below hw).range Try.underlying24 rfl (item_info xa) ⟨Below.refl _ _, rfl⟩
      | 10, ho =>
        have ho2 := Option.some.inj ho; clear ho; subst ho2
        have r7 : a.tmps.getD 7 undef = .pointer (some ⟨Bb, 0, none⟩) := (hk 7 (Flow.mem_looks (by kernel_rfl))).before (by kernel_rfl)
        have r57 : a.tmps.getD 57 undef = .bool true := (hk 57 (Flow.mem_looks (by kernel_rfl))).by_ 8 (by kernel_rfl) (by decide)
        rw [if_pos (Flow.wanted_by (t := 57) rfl (by kernel_rfl) r57)]
        refine step_load_mid 24 (.tmp 7) rfl Bb 0 r7 xb.cells _ (HB.out.below hw).range Try.underlying24 rfl (item_info xb) ⟨Below.refl _ _, rfl⟩
      | 11, ho =>
        have ho2 := Option.some.inj ho; clear ho; subst ho2
        have r58 : a.tmps.getD 58 undef = .agg xa.cells.toArray := (hk 58 (Flow.mem_looks (by kernel_rfl))).by_ 9 (by kernel_rfl) (by decide)
        have r59 : a.tmps.getD 59 undef = .agg xb.cells.toArray := (hk 59 (Flow.mem_looks (by kernel_rfl))).by_ 10 (by kernel_rfl) (by decide)
        have r57 : a.tmps.getD 57 undef = .bool true := (hk 57 (Flow.mem_looks (by kernel_rfl))).by_ 8 (by kernel_rfl) (by decide)
        rw [if_pos (Flow.wanted_by (t := 57) rfl (by kernel_rfl) r57)]
        refine Flow.step_call (f := 15) (args := #[.agg xa.cells.toArray, .agg xb.cells.toArray]) (by simp [execOp, Act.eval, r58, r59, go_sem]) ?_
        refine (first_any xa xb w).mono ?_
        rintro r w1 ⟨rfl, hb1⟩
        exact ⟨_, rfl, hb1, rfl⟩
      | 12, ho =>
        have ho2 := Option.some.inj ho; clear ho; subst ho2
        have r6 : a.tmps.getD 6 undef = .pointer (some ⟨Ba, 0, none⟩) := (hk 6 (Flow.mem_looks (by kernel_rfl))).before (by kernel_rfl)
        have r57 : a.tmps.getD 57 undef = .bool true := (hk 57 (Flow.mem_looks (by kernel_rfl))).by_ 8 (by kernel_rfl) (by decide)
        rw [if_pos (Flow.wanted_by (t := 57) rfl (by kernel_rfl) r57)]
        refine step_load_mid 24 (.tmp 6) rfl Ba 0 r6 xa.cells _ (HA.out.below hw).range Try.underlying24 rfl (item_info xa) ⟨Below.refl _ _, rfl⟩
      | 13, ho =>
        have ho2 := Option.some.inj ho; clear ho; subst ho2
        have r7 : a.tmps.getD 7 undef = .pointer (some ⟨Bb, 0, none⟩) := (hk 7 (Flow.mem_looks (by kernel_rfl))).before (by kernel_rfl)
        have r57 : a.tmps.getD 57 undef = .bool true := (hk 57 (Flow.mem_looks (by kernel_rfl))).by_ 8 (by kernel_rfl) (by decide)
        rw [if_pos (Flow.wanted_by (t := 57) rfl (by kernel_rfl) r57)]
        refine step_load_mid 24 (.tmp 7) rfl Bb 0 r7 xb.cells _ (HB.out.below hw).range Try.underlying24 rfl (item_info xb) ⟨Below.refl _ _, rfl⟩
      | 14, ho =>
        have ho2 := Option.some.inj ho; clear ho; subst ho2
        have r61 : a.tmps.getD 61 undef = .agg xa.cells.toArray := (hk 61 (Flow.mem_looks (by kernel_rfl))).by_ 12 (by kernel_rfl) (by decide)
        have r62 : a.tmps.getD 62 undef = .agg xb.cells.toArray := (hk 62 (Flow.mem_looks (by kernel_rfl))).by_ 13 (by kernel_rfl) (by decide)
        have r57 : a.tmps.getD 57 undef = .bool true := (hk 57 (Flow.mem_looks (by kernel_rfl))).by_ 8 (by kernel_rfl) (by decide)
        rw [if_pos (Flow.wanted_by (t := 57) rfl (by kernel_rfl) r57)]
        refine Flow.step_call (f := 16) (args := #[.agg xa.cells.toArray, .agg xb.cells.toArray]) (by simp [execOp, Act.eval, r61, r62, go_sem]) ?_
        refine (reffirst_any xa xb w).mono ?_
        rintro r w1 ⟨rfl, hb1⟩
        exact ⟨_, rfl, hb1, rfl⟩
      | 15, ho =>
        have ho2 := Option.some.inj ho; clear ho; subst ho2
        have r60 : a.tmps.getD 60 undef = .bool (first xa xb) := (hk 60 (Flow.mem_looks (by kernel_rfl))).by_ 11 (by kernel_rfl) (by decide)
        have r63 : a.tmps.getD 63 undef = .bool (first xa xb) := (hk 63 (Flow.mem_looks (by kernel_rfl))).by_ 14 (by kernel_rfl) (by decide)
        have r57 : a.tmps.getD 57 undef = .bool true := (hk 57 (Flow.mem_looks (by kernel_rfl))).by_ 8 (by kernel_rfl) (by decide)
        rw [if_pos (Flow.wanted_by (t := 57) rfl (by kernel_rfl) r57)]
        refine Flow.step_value (v := .bool true) ?_ ⟨Below.refl _ _, rfl⟩
        simp [execOp, Act.eval, r60, r63, go_sem]
      | 16, ho =>
        have ho2 := Option.some.inj ho; clear ho; subst ho2
        have r57 : a.tmps.getD 57 undef = .bool true := (hk 57 (Flow.mem_looks (by kernel_rfl))).by_ 8 (by kernel_rfl) (by decide)
        have r64 : a.tmps.getD 64 undef = .bool true := (hk 64 (Flow.mem_looks (by kernel_rfl))).by_ 15 (by kernel_rfl) (by decide)
        rw [if_pos (Flow.wanted_free rfl _)]
        refine Flow.step_value (v := .bool true) ?_ ⟨Below.refl _ _, rfl⟩
        simp [execOp, Act.eval, r57, r64, go_sem]
      | 17, ho =>
        have ho2 := Option.some.inj ho; clear ho; subst ho2
        have r65 : a.tmps.getD 65 undef = .bool true := (hk 65 (Flow.mem_looks (by kernel_rfl))).by_ 16 (by kernel_rfl) (by decide)
        rw [if_pos (Flow.wanted_free rfl _)]
        refine Flow.step_value (v := .bool true) ?_ ⟨Below.refl _ _, rfl⟩
        simp [execOp, Act.eval, r65, go_sem]
      | 18, ho =>
        have ho2 := Option.some.inj ho; clear ho; subst ho2
        have r0 : a.tmps.getD 0 undef = .slice A n c := (hk 0 (Flow.mem_looks (by kernel_rfl))).before (by kernel_rfl)
        have r66 : a.tmps.getD 66 undef = .bool true := (hk 66 (Flow.mem_looks (by kernel_rfl))).by_ 17 (by kernel_rfl) (by decide)
        rw [if_pos (Flow.wanted_by (t := 66) rfl (by kernel_rfl) r66)]
        refine Flow.step_value (v := .slice A n c) ?_ ⟨Below.refl _ _, rfl⟩
        simp [execOp, Act.eval, r0, go_sem]
      | 19, ho =>
        have ho2 := Option.some.inj ho; clear ho; subst ho2
        have r67 : a.tmps.getD 67 undef = .slice A n c := (hk 67 (Flow.mem_looks (by kernel_rfl))).by_ 18 (by kernel_rfl) (by decide)
        have r66 : a.tmps.getD 66 undef = .bool true := (hk 66 (Flow.mem_looks (by kernel_rfl))).by_ 17 (by kernel_rfl) (by decide)
        rw [if_pos (Flow.wanted_by (t := 66) rfl (by kernel_rfl) r66)]
        refine Flow.step_call (f := 18) (args := #[.slice A n c]) (by simp [execOp, Act.eval, r67, go_sem]) ?_
        refine (sort_any A n c L w (HL.out.below hw) (by omega)).mono ?_
        rintro r w1 ⟨v, m, rfl, hown, hb1⟩
        have hm : (srt L).length = m := hown.len
        subst hm
        obtain ⟨A1, c1, rfl, hits, _⟩ := hown.its
        exact ⟨_, rfl, hb1, A1, c1, rfl, hits⟩
      | 20, ho =>
        have ho2 := Option.some.inj ho; clear ho; subst ho2
        have r0 : a.tmps.getD 0 undef = .slice A n c := (hk 0 (Flow.mem_looks (by kernel_rfl))).before (by kernel_rfl)
        have r66 : a.tmps.getD 66 undef = .bool true := (hk 66 (Flow.mem_looks (by kernel_rfl))).by_ 17 (by kernel_rfl) (by decide)
        rw [if_pos (Flow.wanted_by (t := 66) rfl (by kernel_rfl) r66)]
        refine Flow.step_value (v := .slice A n c) ?_ ⟨Below.refl _ _, rfl⟩
        simp [execOp, Act.eval, r0, go_sem]
      | 21, ho =>
        have ho2 := Option.some.inj ho; clear ho; subst ho2
        have r69 : a.tmps.getD 69 undef = .slice A n c := (hk 69 (Flow.mem_looks (by kernel_rfl))).by_ 20 (by kernel_rfl) (by decide)
        have r66 : a.tmps.getD 66 undef = .bool true := (hk 66 (Flow.mem_looks (by kernel_rfl))).by_ 17 (by kernel_rfl) (by decide)
        rw [if_pos (Flow.wanted_by (t := 66) rfl (by kernel_rfl) r66)]
        refine Flow.step_call (f := 19) (args := #[.slice A n c]) (by simp [execOp, Act.eval, r69, go_sem]) ?_
        refine (refsort_any A n c L w (HL.out.below hw) (by omega)).mono ?_
        rintro r w1 ⟨v, m, rfl, hown, hb1⟩
        have hm : (srt L).length = m := hown.len
        subst hm
        obtain ⟨A1, c1, rfl, hits, _⟩ := hown.its
        exact ⟨_, rfl, hb1, A1, c1, rfl, hits⟩
      | 22, ho =>
        have ho2 := Option.some.inj ho; clear ho; subst ho2
        have r68 := (hk 68 (Flow.mem_looks (by kernel_rfl))).by_ 19 (by kernel_rfl) (by decide)
        have r70 := (hk 70 (Flow.mem_looks (by kernel_rfl))).by_ 21 (by kernel_rfl) (by decide)
        have r66 : a.tmps.getD 66 undef = .bool true := (hk 66 (Flow.mem_looks (by kernel_rfl))).by_ 17 (by kernel_rfl) (by decide)
        rw [if_pos (Flow.wanted_by (t := 66) rfl (by kernel_rfl) r66)]
        obtain ⟨A1, c1, e1, hr1⟩ := r68
        obtain ⟨A2, c2, e2, hr2⟩ := r70
        refine Flow.step_call (f := 17) (args := #[.slice A1 (srt L).length c1, .slice A2 (srt L).length c2]) (by simp [execOp, Act.eval, e1, e2, go_sem]) ?_
        refine (sameI_any A1 A2 _ c1 c2 (srt L) w hr1 hr2).mono ?_
        rintro r w1 ⟨rfl, hb1⟩
        exact ⟨_, rfl, hb1, rfl⟩
      | 23, ho =>
        have ho2 := Option.some.inj ho; clear ho; subst ho2
        have r66 : a.tmps.getD 66 undef = .bool true := (hk 66 (Flow.mem_looks (by kernel_rfl))).by_ 17 (by kernel_rfl) (by decide)
        have r71 : a.tmps.getD 71 undef = .bool true := (hk 71 (Flow.mem_looks (by kernel_rfl))).by_ 22 (by kernel_rfl) (by decide)
        rw [if_pos (Flow.wanted_free rfl _)]
        refine Flow.step_value (v := .bool true) ?_ ⟨Below.refl _ _, rfl⟩
        simp [execOp, Act.eval, r66, r71, go_sem]
      | 24, ho =>
        have ho2 := Option.some.inj ho; clear ho; subst ho2
        have r72 : a.tmps.getD 72 undef = .bool true := (hk 72 (Flow.mem_looks (by kernel_rfl))).by_ 23 (by kernel_rfl) (by decide)
        rw [if_pos (Flow.wanted_free rfl _)]
        refine Flow.step_value (v := .bool true) ?_ ⟨Below.refl _ _, rfl⟩
        simp [execOp, Act.eval, r72, go_sem]
      | 25, ho =>
        have ho2 := Option.some.inj ho; clear ho; subst ho2
        have r12 : a.tmps.getD 12 undef = .slice A1 V.length c1 := (hk 12 (Flow.mem_looks (by kernel_rfl))).before (by kernel_rfl)
        have r73 : a.tmps.getD 73 undef = .bool true := (hk 73 (Flow.mem_looks (by kernel_rfl))).by_ 24 (by kernel_rfl) (by decide)
        rw [if_pos (Flow.wanted_by (t := 73) rfl (by kernel_rfl) r73)]
        refine Flow.step_value (v := .slice A1 V.length c1) ?_ ⟨Below.refl _ _, rfl⟩
        simp [execOp, Act.eval, r12, go_sem]
      | 26, ho =>
        have ho2 := Option.some.inj ho; clear ho; subst ho2
        have r14 : a.tmps.getD 14 undef = .slice A2 V.length c2 := (hk 14 (Flow.mem_looks (by kernel_rfl))).before (by kernel_rfl)
        have r73 : a.tmps.getD 73 undef = .bool true := (hk 73 (Flow.mem_looks (by kernel_rfl))).by_ 24 (by kernel_rfl) (by decide)
        rw [if_pos (Flow.wanted_by (t := 73) rfl (by kernel_rfl) r73)]
        refine Flow.step_value (v := .slice A2 V.length c2) ?_ ⟨Below.refl _ _, rfl⟩
        simp [execOp, Act.eval, r14, go_sem]
      | 27, ho =>
        have ho2 := Option.some.inj ho; clear ho; subst ho2
        have r74 : a.tmps.getD 74 undef = .slice A1 V.length c1 := (hk 74 (Flow.mem_looks (by kernel_rfl))).by_ 25 (by kernel_rfl) (by decide)
        have r75 : a.tmps.getD 75 undef = .slice A2 V.length c2 := (hk 75 (Flow.mem_looks (by kernel_rfl))).by_ 26 (by kernel_rfl) (by decide)
        have r73 : a.tmps.getD 73 undef = .bool true := (hk 73 (Flow.mem_looks (by kernel_rfl))).by_ 24 (by kernel_rfl) (by decide)
        rw [if_pos (Flow.wanted_by (t := 73) rfl (by kernel_rfl) r73)]
        refine Flow.step_call (f := 20) (args := #[.slice A1 V.length c1, .slice A2 V.length c2]) (by simp [execOp, Act.eval, r74, r75, go_sem]) ?_
        refine (sameIds_any A1 A2 _ c1 _ c2 V V w (H1.out.below hw) (H2.out.below hw)).mono ?_
        rintro r w1 ⟨rfl, hb1⟩
        exact ⟨_, rfl, hb1, congrArg Value.bool (decide_eq_true rfl)⟩
      | 28, ho =>
        have ho2 := Option.some.inj ho; clear ho; subst ho2
        have r73 : a.tmps.getD 73 undef = .bool true := (hk 73 (Flow.mem_looks (by kernel_rfl))).by_ 24 (by kernel_rfl) (by decide)
        have r76 : a.tmps.getD 76 undef = .bool true := (hk 76 (Flow.mem_looks (by kernel_rfl))).by_ 27 (by kernel_rfl) (by decide)
        rw [if_pos (Flow.wanted_free rfl _)]
        refine Flow.step_value (v := .bool true) ?_ ⟨Below.refl _ _, rfl⟩
        simp [execOp, Act.eval, r73, r76, go_sem]
      | 29, ho =>
        have ho2 := Option.some.inj ho; clear ho; subst ho2
        have r77 : a.tmps.getD 77 undef = .bool true := (hk 77 (Flow.mem_looks (by kernel_rfl))).by_ 28 (by kernel_rfl) (by decide)
        rw [if_pos (Flow.wanted_free rfl _)]
        refine Flow.step_value (v := .bool true) ?_ ⟨Below.refl _ _, rfl⟩
        simp [execOp, Act.eval, r77, go_sem]
      | 30, ho =>
        have ho2 := Option.some.inj ho; clear ho; subst ho2
        have r13 : a.tmps.getD 13 undef = .bool ok := (hk 13 (Flow.mem_looks (by kernel_rfl))).before (by kernel_rfl)
        have r78 : a.tmps.getD 78 undef = .bool true := (hk 78 (Flow.mem_looks (by kernel_rfl))).by_ 29 (by kernel_rfl) (by decide)
        rw [if_pos (Flow.wanted_by (t := 78) rfl (by kernel_rfl) r78)]
        refine Flow.step_value (v := .bool ok) ?_ ⟨Below.refl _ _, rfl⟩
        simp [execOp, Act.eval, r13, go_sem]
      | 31, ho =>
        have ho2 := Option.some.inj ho; clear ho; subst ho2
        have r15 : a.tmps.getD 15 undef = .bool ok := (hk 15 (Flow.mem_looks (by kernel_rfl))).before (by kernel_rfl)
        have r78 : a.tmps.getD 78 undef = .bool true := (hk 78 (Flow.mem_looks (by kernel_rfl))).by_ 29 (by kernel_rfl) (by decide)
        rw [if_pos (Flow.wanted_by (t := 78) rfl (by kernel_rfl) r78)]
        refine Flow.step_value (v := .bool ok) ?_ ⟨Below.refl _ _, rfl⟩
        simp [execOp, Act.eval, r15, go_sem]
      | 32, ho =>
        have ho2 := Option.some.inj ho; clear ho; subst ho2
        have r79 : a.tmps.getD 79 undef = .bool ok := (hk 79 (Flow.mem_looks (by kernel_rfl))).by_ 30 (by kernel_rfl) (by decide)
        have r80 : a.tmps.getD 80 undef = .bool ok := (hk 80 (Flow.mem_looks (by kernel_rfl))).by_ 31 (by kernel_rfl) (by decide)
        have r78 : a.tmps.getD 78 undef = .bool true := (hk 78 (Flow.mem_looks (by kernel_rfl))).by_ 29 (by kernel_rfl) (by decide)
        rw [if_pos (Flow.wanted_by (t := 78) rfl (by kernel_rfl) r78)]
        refine Flow.step_value (v := .bool true) ?_ ⟨Below.refl _ _, rfl⟩
        simp [execOp, Act.eval, r79, r80, go_sem]
      | 33, ho =>
        have ho2 := Option.some.inj ho; clear ho; subst ho2
        have r78 : a.tmps.getD 78 undef = .bool true := (hk 78 (Flow.mem_looks (by kernel_rfl))).by_ 29 (by kernel_rfl) (by decide)
        have r81 : a.tmps.getD 81 undef = .bool true := (hk 81 (Flow.mem_looks (by kernel_rfl))).by_ 32 (by kernel_rfl) (by decide)
        rw [if_pos (Flow.wanted_free rfl _)]
        refine Flow.step_value (v := .bool true) ?_ ⟨Below.refl _ _, rfl⟩
        simp [execOp, Act.eval, r78, r81, go_sem]
      | 34, ho =>
        have ho2 := Option.some.inj ho; clear ho; subst ho2
        have r82 : a.tmps.getD 82 undef = .bool true := (hk 82 (Flow.mem_looks (by kernel_rfl))).by_ 33 (by kernel_rfl) (by decide)
        rw [if_pos (Flow.wanted_free rfl _)]
        refine Flow.step_value (v := .bool true) ?_ ⟨Below.refl _ _, rfl⟩
        simp [execOp, Act.eval, r82, go_sem]
      | 35, ho =>
        have ho2 := Option.some.inj ho; clear ho; subst ho2
        have r16 : a.tmps.getD 16 undef = .int .i64 ca := (hk 16 (Flow.mem_looks (by kernel_rfl))).before (by kernel_rfl)
        have r83 : a.tmps.getD 83 undef = .bool true := (hk 83 (Flow.mem_looks (by kernel_rfl))).by_ 34 (by kernel_rfl) (by decide)
        rw [if_pos (Flow.wanted_by (t := 83) rfl (by kernel_rfl) r83)]
        refine Flow.step_value (v := .int .i64 ca) ?_ ⟨Below.refl _ _, rfl⟩
        simp [execOp, Act.eval, r16, go_sem]
      | 36, ho =>
        have ho2 := Option.some.inj ho; clear ho; subst ho2
        have r18 : a.tmps.getD 18 undef = .int .i64 ca := (hk 18 (Flow.mem_looks (by kernel_rfl))).before (by kernel_rfl)
        have r83 : a.tmps.getD 83 undef = .bool true := (hk 83 (Flow.mem_looks (by kernel_rfl))).by_ 34 (by kernel_rfl) (by decide)
        rw [if_pos (Flow.wanted_by (t := 83) rfl (by kernel_rfl) r83)]
        refine Flow.step_value (v := .int .i64 ca) ?_ ⟨Below.refl _ _, rfl⟩
        simp [execOp, Act.eval, r18, go_sem]
      | 37, ho =>
        have ho2 := Option.some.inj ho; clear ho; subst ho2
        have r84 : a.tmps.getD 84 undef = .int .i64 ca := (hk 84 (Flow.mem_looks (by kernel_rfl))).by_ 35 (by kernel_rfl) (by decide)
        have r85 : a.tmps.getD 85 undef = .int .i64 ca := (hk 85 (Flow.mem_looks (by kernel_rfl))).by_ 36 (by kernel_rfl) (by decide)
        have r83 : a.tmps.getD 83 undef = .bool true := (hk 83 (Flow.mem_looks (by kernel_rfl))).by_ 34 (by kernel_rfl) (by decide)
        rw [if_pos (Flow.wanted_by (t := 83) rfl (by kernel_rfl) r83)]
        refine Flow.step_value (v := .bool true) ?_ ⟨Below.refl _ _, rfl⟩
        simp [execOp, Act.eval, r84, r85, go_sem]
      | 38, ho =>
        have ho2 := Option.some.inj ho; clear ho; subst ho2
        have r83 : a.tmps.getD 83 undef = .bool true := (hk 83 (Flow.mem_looks (by kernel_rfl))).by_ 34 (by kernel_rfl) (by decide)
        have r86 : a.tmps.getD 86 undef = .bool true := (hk 86 (Flow.mem_looks (by kernel_rfl))).by_ 37 (by kernel_rfl) (by decide)
        rw [if_pos (Flow.wanted_free rfl _)]
        refine Flow.step_value (v := .bool true) ?_ ⟨Below.refl _ _, rfl⟩
        simp [execOp, Act.eval, r83, r86, go_sem]
      | 39, ho =>
        have ho2 := Option.some.inj ho; clear ho; subst ho2
        have r87 : a.tmps.getD 87 undef = .bool true := (hk 87 (Flow.mem_looks (by kernel_rfl))).by_ 38 (by kernel_rfl) (by decide)
        rw [if_pos (Flow.wanted_free rfl _)]
        refine Flow.step_value (v := .bool true) ?_ ⟨Below.refl _ _, rfl⟩
        simp [execOp, Act.eval, r87, go_sem]
      | 40, ho =>
        have ho2 := Option.some.inj ho; clear ho; subst ho2
        have r17 : a.tmps.getD 17 undef = .int .i64 cp := (hk 17 (Flow.mem_looks (by kernel_rfl))).before (by kernel_rfl)
        have r88 : a.tmps.getD 88 undef = .bool true := (hk 88 (Flow.mem_looks (by kernel_rfl))).by_ 39 (by kernel_rfl) (by decide)
        rw [if_pos (Flow.wanted_by (t := 88) rfl (by kernel_rfl) r88)]
        refine Flow.step_value (v := .int .i64 cp) ?_ ⟨Below.refl _ _, rfl⟩
        simp [execOp, Act.eval, r17, go_sem]
      | 41, ho =>
        have ho2 := Option.some.inj ho; clear ho; subst ho2
        have r19 : a.tmps.getD 19 undef = .int .i64 cp := (hk 19 (Flow.mem_looks (by kernel_rfl))).before (by kernel_rfl)
        have r88 : a.tmps.getD 88 undef = .bool true := (hk 88 (Flow.mem_looks (by kernel_rfl))).by_ 39 (by kernel_rfl) (by decide)
        rw [if_pos (Flow.wanted_by (t := 88) rfl (by kernel_rfl) r88)]
        refine Flow.step_value (v := .int .i64 cp) ?_ ⟨Below.refl _ _, rfl⟩
        simp [execOp, Act.eval, r19, go_sem]
      | 42, ho =>
        have ho2 := Option.some.inj ho; clear ho; subst ho2
        have r89 : a.tmps.getD 89 undef = .int .i64 cp := (hk 89 (Flow.mem_looks (by kernel_rfl))).by_ 40 (by kernel_rfl) (by decide)
        have r90 : a.tmps.getD 90 undef = .int .i64 cp := (hk 90 (Flow.mem_looks (by kernel_rfl))).by_ 41 (by kernel_rfl) (by decide)
        have r88 : a.tmps.getD 88 undef = .bool true := (hk 88 (Flow.mem_looks (by kernel_rfl))).by_ 39 (by kernel_rfl) (by decide)
        rw [if_pos (Flow.wanted_by (t := 88) rfl (by kernel_rfl) r88)]
        refine Flow.step_value (v := .bool true) ?_ ⟨Below.refl _ _, rfl⟩
        simp [execOp, Act.eval, r89, r90, go_sem]
      | 43, ho =>
        have ho2 := Option.some.inj ho; clear ho; subst ho2
        have r88 : a.tmps.getD 88 undef = .bool true := (hk 88 (Flow.mem_looks (by kernel_rfl))).by_ 39 (by kernel_rfl) (by decide)
        have r91 : a.tmps.getD 91 undef = .bool true := (hk 91 (Flow.mem_looks (by kernel_rfl))).by_ 42 (by kernel_rfl) (by decide)
        rw [if_pos (Flow.wanted_free rfl _)]
        refine Flow.step_value (v := .bool true) ?_ ⟨Below.refl _ _, rfl⟩
        simp [execOp, Act.eval, r88, r91, go_sem]
      | 44, ho =>
        have ho2 := Option.some.inj ho; clear ho; subst ho2
        have r92 : a.tmps.getD 92 undef = .bool true := (hk 92 (Flow.mem_looks (by kernel_rfl))).by_ 43 (by kernel_rfl) (by decide)
        rw [if_pos (Flow.wanted_free rfl _)]
        refine Flow.step_value (v := .bool true) ?_ ⟨Below.refl _ _, rfl⟩
        simp [execOp, Act.eval, r92, go_sem]
      | _ + 45, ho => exact absurd ho (by simp)
    case fin =>
      intro a4 w4 hw4 hd4 hs4 hg4 hold
      have r := hg4 44 _ 10 rfl rfl
      refine (‹∀ (a : Act) (w : World), Code.wp _ Code.ret _ a w → _›) _ _ ?_
      refine wp_ret ?_
      refine bodyPost_ret (results_tmp rfl _ _ _) hd4 ⟨congrArg Ending.returned r, below_trans B7.out hw4 B7.out.size⟩
end Go.Proofs.Ytclfbjbbdfejkaa.Ord
