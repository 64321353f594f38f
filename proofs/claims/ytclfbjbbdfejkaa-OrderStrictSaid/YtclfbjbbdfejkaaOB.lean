/- The merge in place, where the right half is one item. -/
import Derived.Test.YtclfbjbbdfejkaaOA
namespace Go.Proofs.Ytclfbjbbdfejkaa.Ord
open Go.RowKit

def G40b (g N c m h : Nat) (x y : Item) (z : Bool) : Nat → Value → World → Prop
  | 0 => fun v _ => v = fcmp
  | 1 => fun v _ => v = sl g N c
  | 2 => fun v _ => v = .int .i64 m
  | 3 => fun v _ => v = .pointer (some ⟨g, (m) * 5, none⟩)
  | 4 => fun v _ => v = .agg x.cells.toArray
  | 5 => fun v _ => v = sl g N c
  | 6 => fun v _ => v = .int .i64 h
  | 7 => fun v _ => v = .pointer (some ⟨g, (h) * 5, none⟩)
  | 8 => fun v _ => v = .agg y.cells.toArray
  | 9 => fun v _ => v = .int .i64 (kc x y)
  | 10 => fun v _ => v = .bool z
  | 11 => fun v _ => v = .bool (!z)
  | _ => fun _ _ => True
theorem G40b_stable (g N c m h : Nat) (x y : Item) (z : Bool) : ∀ i v w w', G40b g N c m h x y z i v w → Below w.heap.size w w' → G40b g N c m h x y z i v w' := by
  intro i v w w' h hb
  match i, h with
  | 0, h => exact h
  | 1, h => exact h
  | 2, h => exact h
  | 3, h => exact h
  | 4, h => exact h
  | 5, h => exact h
  | 6, h => exact h
  | 7, h => exact h
  | 8, h => exact h
  | 9, h => exact h
  | 10, h => exact h
  | 11, h => exact h
  | _ + 12, _ => exact trivial
def G40d (g N c k : Nat) (x y : Item) : Nat → Value → World → Prop
  | 0 => fun v _ => v = sl g N c
  | 1 => fun v _ => v = .int .i64 k
  | 2 => fun v _ => v = sl g N c
  | 3 => fun v _ => v = .int .i64 k
  | 4 => fun v _ => v = .int .i64 (k - 1 : Nat)
  | 5 => fun v _ => v = sl g N c
  | 6 => fun v _ => v = .int .i64 k
  | 7 => fun v _ => v = .int .i64 (k - 1 : Nat)
  | 8 => fun v _ => v = .pointer (some ⟨g, (k - 1) * 5, none⟩)
  | 9 => fun v _ => v = .agg y.cells.toArray
  | 10 => fun v _ => v = sl g N c
  | 11 => fun v _ => v = .int .i64 k
  | 12 => fun v _ => v = .pointer (some ⟨g, (k) * 5, none⟩)
  | 13 => fun v _ => v = .agg x.cells.toArray
  | 14 => fun v _ => v = .pointer (some ⟨g, (k) * 5, none⟩)
  | 15 => fun _ _ => True
  | 16 => fun v _ => v = .pointer (some ⟨g, (k - 1) * 5, none⟩)
  | _ => fun _ _ => True
theorem G40d_pure (g N c k : Nat) (x y : Item) : ∀ i v w w', G40d g N c k x y i v w → G40d g N c k x y i v w' := by
  intro i v w w' h
  match i, h with
  | 0, h => exact h
  | 1, h => exact h
  | 2, h => exact h
  | 3, h => exact h
  | 4, h => exact h
  | 5, h => exact h
  | 6, h => exact h
  | 7, h => exact h
  | 8, h => exact h
  | 9, h => exact h
  | 10, h => exact h
  | 11, h => exact h
  | 12, h => exact h
  | 13, h => exact h
  | 14, h => exact h
  | 15, h => exact h
  | 16, h => exact h
  | _ + 17, _ => exact trivial
set_option maxRecDepth 100000 in
set_option maxHeartbeats 8000000 in
theorem mergeB_any (base g N c p m : Nat) (L : List Item) (w : World) (hO : OwnI w base (sl g N c) N L) (hm : p + 1 < m) (hb : m + 1 ≤ N) (hN : N ≤ 100000) (hs : Srt p m L) :
    Calls Try.prog 40 #[sl g N c, .int .i64 p, .int .i64 m, .int .i64 (m + 1 : Nat), fcmp] w (Sorts w base g N c p (m + 1) L) := by
  have HO := Lib.hid hO
  have HL := Lib.hid hO.len
  have HS := Lib.hid hs
  clear hO hs
  have e1 : ((m + 1 : Nat) : Int) = m + 1 := by omega
  have e2 : ((m : Int) + 1 - m) = 1 := by omega
  have e3 : ((m : Int) - p == 1) = false := by rw [beq_eq_false_iff_ne]; omega
  rw [e1]
  clear e1
  go_enter Try.func40, Try.ntmps40
  go_wp2
  go_loopw [14, 15] (fun s t wr => ∃ i j : Nat, s = .int .i64 i ∧ t = .int .i64 j ∧ p ≤ i ∧ i ≤ j ∧ j ≤ m ∧ OwnI wr base (sl g N c) N L ∧ w.grownBy wr (some g) ∧ (i = p ∨ ¬ kc (nth L m) (nth L (i - 1)) < 0) ∧ (j = m ∨ kc (nth L m) (nth L j) < 0)) (fun s t _ => (intOf t).toNat - (intOf s).toNat)
  case atStart => exact ⟨p, m, rfl, rfl, Nat.le_refl _, by omega, Nat.le_refl _, HO.out, grown_refl _ _, .inl rfl, .inl rfl⟩
  case round =>
    obtain ⟨i, j, rfl, rfl, hi, hij, hj, hown, hgr, hl, hr⟩ := hrel
    have OW := Lib.hid hown
    have GR := Lib.hid hgr
    have LO := Lib.hid (hl.imp (fun q => q) (fun q => show ¬ kc (nth L m) (nth L (i - 1)) < 0 by omega))
    have UP := Lib.hid hr
    clear hown hgr hl hr
    by_cases hlt : i < j
    · have hkn : (i : Int) < j := by omega
      obtain ⟨h, hh⟩ : ∃ h, h = (i + j) / 2 := ⟨_, rfl⟩
      have eh : ((i : Int) + j) / 2 = h := by omega
      have b1 : i ≤ h := by omega
      have b2 : h < j := by omega
      have h1 : h < N := by omega
      have h2 : m < N := by omega
      obtain ⟨x, hx⟩ : ∃ x, x = nth L m := ⟨_, rfl⟩
      obtain ⟨y, hy⟩ : ∃ y, y = nth L h := ⟨_, rfl⟩
      have HX := Lib.hid (show At wr g (m * 5) x.cells by rw [hx, nth_eq (by rw [HL.out]; exact h2)]; exact OW.out.at _)
      have HY := Lib.hid (show At wr g (h * 5) y.cells by rw [hy, nth_eq (by rw [HL.out]; exact h1)]; exact OW.out.at _)
      have EX := Lib.hid hx
      have EY := Lib.hid hy
      obtain ⟨z, hz⟩ : ∃ z, z = decide (kc x y < 0) := ⟨_, rfl⟩
      have HZ := Lib.hid hz.symm
      have EH := Lib.hid eh
      clear hx hy hz hh eh
      go_wp2_with fail
      rw [EH.out]
      refine Flow.wp_region_flow (by kernel_rfl) (G40b g N c m h x y z) (by kernel_rfl) (G40b_stable g N c m h x y z) ?loc ?fin
      case loc =>
        intro i o ho a w hw hk
        match i, ho with
        | 0, ho =>
          have ho2 := Option.some.inj ho; clear ho; subst ho2
          have r4 : a.tmps.getD 4 undef = fcmp := (hk 4 (Flow.mem_looks (by kernel_rfl))).before (by kernel_rfl)
          rw [if_pos (Flow.wanted_free rfl _)]
          refine Flow.step_value (v := fcmp) ?_ ⟨Below.refl _ _, rfl⟩
          simp [execOp, Act.eval, r4, go_sem]
        | 1, ho =>
          have ho2 := Option.some.inj ho; clear ho; subst ho2
          have r0 : a.tmps.getD 0 undef = sl g N c := (hk 0 (Flow.mem_looks (by kernel_rfl))).before (by kernel_rfl)
          rw [if_pos (Flow.wanted_free rfl _)]
          refine Flow.step_value (v := sl g N c) ?_ ⟨Below.refl _ _, rfl⟩
          simp [execOp, Act.eval, r0, go_sem]
        | 2, ho =>
          have ho2 := Option.some.inj ho; clear ho; subst ho2
          have r2 : a.tmps.getD 2 undef = .int .i64 m := (hk 2 (Flow.mem_looks (by kernel_rfl))).before (by kernel_rfl)
          rw [if_pos (Flow.wanted_free rfl _)]
          refine Flow.step_value (v := .int .i64 m) ?_ ⟨Below.refl _ _, rfl⟩
          simp [execOp, Act.eval, r2, go_sem]
        | 3, ho =>
          have ho2 := Option.some.inj ho; clear ho; subst ho2
          have r93 : a.tmps.getD 93 undef = sl g N c := (hk 93 (Flow.mem_looks (by kernel_rfl))).by_ 1 (by kernel_rfl) (by decide)
          have r94 : a.tmps.getD 94 undef = .int .i64 m := (hk 94 (Flow.mem_looks (by kernel_rfl))).by_ 2 (by kernel_rfl) (by decide)
          rw [if_pos (Flow.wanted_free rfl _)]
          refine step_index (.tmp 93) (.tmp 94) rfl g N c (m) r93 r94 h2 ⟨Below.refl _ _, rfl⟩
        | 4, ho =>
          have ho2 := Option.some.inj ho; clear ho; subst ho2
          have r95 : a.tmps.getD 95 undef = .pointer (some ⟨g, (m) * 5, none⟩) := (hk 95 (Flow.mem_looks (by kernel_rfl))).by_ 3 (by kernel_rfl) (by decide)
          rw [if_pos (Flow.wanted_free rfl _)]
          refine step_load_mid 24 (.tmp 95) rfl g (_ * 5) r95 x.cells _ (HX.out.below hw).range Try.underlying24 rfl (item_info x) ⟨Below.refl _ _, rfl⟩
        | 5, ho =>
          have ho2 := Option.some.inj ho; clear ho; subst ho2
          have r0 : a.tmps.getD 0 undef = sl g N c := (hk 0 (Flow.mem_looks (by kernel_rfl))).before (by kernel_rfl)
          rw [if_pos (Flow.wanted_free rfl _)]
          refine Flow.step_value (v := sl g N c) ?_ ⟨Below.refl _ _, rfl⟩
          simp [execOp, Act.eval, r0, go_sem]
        | 6, ho =>
          have ho2 := Option.some.inj ho; clear ho; subst ho2
          have r16 : a.tmps.getD 16 undef = .int .i64 h := (hk 16 (Flow.mem_looks (by kernel_rfl))).before (by kernel_rfl)
          rw [if_pos (Flow.wanted_free rfl _)]
          refine Flow.step_value (v := .int .i64 h) ?_ ⟨Below.refl _ _, rfl⟩
          simp [execOp, Act.eval, r16, go_sem]
        | 7, ho =>
          have ho2 := Option.some.inj ho; clear ho; subst ho2
          have r97 : a.tmps.getD 97 undef = sl g N c := (hk 97 (Flow.mem_looks (by kernel_rfl))).by_ 5 (by kernel_rfl) (by decide)
          have r98 : a.tmps.getD 98 undef = .int .i64 h := (hk 98 (Flow.mem_looks (by kernel_rfl))).by_ 6 (by kernel_rfl) (by decide)
          rw [if_pos (Flow.wanted_free rfl _)]
          refine step_index (.tmp 97) (.tmp 98) rfl g N c (h) r97 r98 h1 ⟨Below.refl _ _, rfl⟩
        | 8, ho =>
          have ho2 := Option.some.inj ho; clear ho; subst ho2
          have r99 : a.tmps.getD 99 undef = .pointer (some ⟨g, (h) * 5, none⟩) := (hk 99 (Flow.mem_looks (by kernel_rfl))).by_ 7 (by kernel_rfl) (by decide)
          rw [if_pos (Flow.wanted_free rfl _)]
          refine step_load_mid 24 (.tmp 99) rfl g (_ * 5) r99 y.cells _ (HY.out.below hw).range Try.underlying24 rfl (item_info y) ⟨Below.refl _ _, rfl⟩
        | 9, ho =>
          have ho2 := Option.some.inj ho; clear ho; subst ho2
          have r92 : a.tmps.getD 92 undef = fcmp := (hk 92 (Flow.mem_looks (by kernel_rfl))).by_ 0 (by kernel_rfl) (by decide)
          have r96 : a.tmps.getD 96 undef = .agg x.cells.toArray := (hk 96 (Flow.mem_looks (by kernel_rfl))).by_ 4 (by kernel_rfl) (by decide)
          have r100 : a.tmps.getD 100 undef = .agg y.cells.toArray := (hk 100 (Flow.mem_looks (by kernel_rfl))).by_ 8 (by kernel_rfl) (by decide)
          rw [if_pos (Flow.wanted_free rfl _)]
          refine Flow.step_call (f := 32) (args := #[.agg x.cells.toArray, .agg y.cells.toArray]) (by simp [execOp, Act.eval, r92, r96, r100, fcmp, go_sem]) ?_
          refine (cmp_any x y w).mono ?_
          rintro r w1 ⟨rfl, hb1⟩
          exact ⟨_, rfl, hb1, rfl⟩
        | 10, ho =>
          have ho2 := Option.some.inj ho; clear ho; subst ho2
          have r101 : a.tmps.getD 101 undef = .int .i64 (kc x y) := (hk 101 (Flow.mem_looks (by kernel_rfl))).by_ 9 (by kernel_rfl) (by decide)
          rw [if_pos (Flow.wanted_free rfl _)]
          refine Flow.step_value (v := .bool z) ?_ ⟨Below.refl _ _, rfl⟩
          simp [execOp, Act.eval, r101, HZ.out, go_sem]
        | 11, ho =>
          have ho2 := Option.some.inj ho; clear ho; subst ho2
          have r102 : a.tmps.getD 102 undef = .bool z := (hk 102 (Flow.mem_looks (by kernel_rfl))).by_ 10 (by kernel_rfl) (by decide)
          rw [if_pos (Flow.wanted_free rfl _)]
          refine Flow.step_value (v := .bool (!z)) ?_ ⟨Below.refl _ _, rfl⟩
          cases z <;> simp [execOp, Act.eval, r102, go_sem]
        | _ + 12, ho => exact absurd ho (by simp)
      case fin =>
        intro a4 W5 hw4 hd4 hs4 hg hold
        have ea := Flow.act_set (a := a4) hold hs4 hd4 [92, 93, 94, 95, 96, 97, 98, 99, 100, 101, 102, 103] (by kernel_rfl)
        have e103 : a4.tmps.getD 103 undef = .bool (!z) := hg 11 _ 103 rfl rfl
        simp only [Flow.sets, e103, List.setIfInBounds_toArray, List.set_cons_succ, List.set_cons_zero] at ea
        rw [ea]
        generalize a4.tmps.getD 92 undef = z92
        generalize a4.tmps.getD 93 undef = z93
        generalize a4.tmps.getD 94 undef = z94
        generalize a4.tmps.getD 95 undef = z95
        generalize a4.tmps.getD 96 undef = z96
        generalize a4.tmps.getD 97 undef = z97
        generalize a4.tmps.getD 98 undef = z98
        generalize a4.tmps.getD 99 undef = z99
        generalize a4.tmps.getD 100 undef = z100
        generalize a4.tmps.getD 101 undef = z101
        generalize a4.tmps.getD 102 undef = z102
        clear ea e103
        have OW5 := Lib.hid (OW.out.below hw4)
        have GR5 := Lib.hid (grown_trans GR.out (below_grown' hw4 _))
        clear hd4 hs4 hg hold hw4
        refine (‹∀ (a : Act) (w : World), Code.wp _ _ _ a w → _›) _ _ ?_
        cases z with
        | true =>
          have hzz := of_decide_eq_true HZ.out
          rw [EX.out, EY.out] at hzz
          have UZ := Lib.hid hzz
          clear hzz
          go_wp2
          go_roundw
          case rel => exact ⟨i, h, rfl, rfl, hi, b1, by omega, OW5.out, GR5.out, LO.out.imp (fun q => q) (fun q => by omega), .inr UZ.out⟩
          case measure => simp [intOf]; omega
        | false =>
          have hzz := of_decide_eq_false HZ.out
          rw [EX.out, EY.out] at hzz
          have LZ := Lib.hid hzz
          clear hzz
          go_wp2
          go_roundw
          case rel => exact ⟨h + 1, j, by go_num, rfl, by omega, b2, hj, OW5.out, GR5.out, .inr (by rw [Nat.add_sub_cancel]; exact LZ.out), UP.out⟩
          case measure => simp [intOf]; omega
    · have hkn : ¬ (i : Int) < j := by omega
      obtain rfl : i = j := by omega
      have LAW := Lib.hid (srt_rot_down HS.out hi hj (by rw [HL.out]; omega) (LO.out.imp (fun q => q) (fun q => by omega)) UP.out)
      go_wp2
      go_loopw [17] (fun s wr => ∃ k : Nat, ∃ M, s = .int .i64 k ∧ i ≤ k ∧ k ≤ m ∧ OwnI wr base (sl g N c) N M ∧ w.grownBy wr (some g) ∧ M = rot k m (m + 1) L) (fun s _ => (intOf s).toNat)
      case atStart => exact ⟨m, L, rfl, hj, Nat.le_refl _, OW.out, GR.out, (rot_none' _ _ _).symm⟩
      case round =>
        obtain ⟨k, M, rfl, hk1, hk2, hown, hgr, hM⟩ := hrel
        have OW := Lib.hid hown
        have GR := Lib.hid hgr
        have EM := Lib.hid hM
        have ML := Lib.hid hown.len
        clear hown hgr hM
        by_cases hlt2 : i < k
        · have hkn2 : (i : Int) < k := by omega
          have h1 : k < N := by omega
          have h2 : k - 1 < N := by omega
          obtain ⟨x, hx⟩ : ∃ x, x = nth M k := ⟨_, rfl⟩
          obtain ⟨y, hy⟩ : ∃ y, y = nth M (k - 1) := ⟨_, rfl⟩
          have HX := Lib.hid (show At wr g (k * 5) x.cells by rw [hx, nth_eq (by rw [ML.out]; exact h1)]; exact OW.out.at _)
          have HY := Lib.hid (show At wr g ((k - 1) * 5) y.cells by rw [hy, nth_eq (by rw [ML.out]; exact h2)]; exact OW.out.at _)
          have EX := Lib.hid hx
          have EY := Lib.hid hy
          clear hx hy
          go_wp2_with fail
          refine Flow.wp_region_two (m := 17) (s := 15) (by kernel_rfl) [9, 13] (G40d g N c k x y) (fun w2 => OwnI w2 base (sl g N c) N (M.set k y) ∧ wr.grownBy w2 (some g)) (by kernel_rfl) rfl (by kernel_rfl) (G40d_pure g N c k x y) ?loc ?locS ?fin
          case loc =>
            intro i o hi ho hne a w hL hk
            match i, hi, ho with
            | 0, _, ho =>
              have ho2 := Option.some.inj ho; clear ho; subst ho2
              have r0 : a.tmps.getD 0 undef = sl g N c := (hk 0 (Flow.mem_looks (by kernel_rfl))).before (by kernel_rfl)
              rw [if_pos (Flow.wanted_free rfl _)]
              refine Flow.step_value (v := sl g N c) ?_ ⟨rfl, rfl⟩
              simp [execOp, Act.eval, r0, go_sem]
            | 1, _, ho =>
              have ho2 := Option.some.inj ho; clear ho; subst ho2
              have r17 : a.tmps.getD 17 undef = .int .i64 k := (hk 17 (Flow.mem_looks (by kernel_rfl))).before (by kernel_rfl)
              rw [if_pos (Flow.wanted_free rfl _)]
              refine Flow.step_value (v := .int .i64 k) ?_ ⟨rfl, rfl⟩
              simp [execOp, Act.eval, r17, go_sem]
            | 2, _, ho =>
              have ho2 := Option.some.inj ho; clear ho; subst ho2
              have r0 : a.tmps.getD 0 undef = sl g N c := (hk 0 (Flow.mem_looks (by kernel_rfl))).before (by kernel_rfl)
              rw [if_pos (Flow.wanted_free rfl _)]
              refine Flow.step_value (v := sl g N c) ?_ ⟨rfl, rfl⟩
              simp [execOp, Act.eval, r0, go_sem]
            | 3, _, ho =>
              have ho2 := Option.some.inj ho; clear ho; subst ho2
              have r17 : a.tmps.getD 17 undef = .int .i64 k := (hk 17 (Flow.mem_looks (by kernel_rfl))).before (by kernel_rfl)
              rw [if_pos (Flow.wanted_free rfl _)]
              refine Flow.step_value (v := .int .i64 k) ?_ ⟨rfl, rfl⟩
              simp [execOp, Act.eval, r17, go_sem]
            | 4, _, ho =>
              have ho2 := Option.some.inj ho; clear ho; subst ho2
              have r116 : a.tmps.getD 116 undef = .int .i64 k := (hk 116 (Flow.mem_looks (by kernel_rfl))).by_ 3 (by kernel_rfl) (by decide)
              rw [if_pos (Flow.wanted_free rfl _)]
              refine step_sub (.tmp 116) (.const (.int .i64 1)) rfl k 1 (k - 1) r116 rfl rfl (by omega) (by omega) ⟨rfl, rfl⟩
            | 5, _, ho =>
              have ho2 := Option.some.inj ho; clear ho; subst ho2
              have r0 : a.tmps.getD 0 undef = sl g N c := (hk 0 (Flow.mem_looks (by kernel_rfl))).before (by kernel_rfl)
              rw [if_pos (Flow.wanted_free rfl _)]
              refine Flow.step_value (v := sl g N c) ?_ ⟨rfl, rfl⟩
              simp [execOp, Act.eval, r0, go_sem]
            | 6, _, ho =>
              have ho2 := Option.some.inj ho; clear ho; subst ho2
              have r17 : a.tmps.getD 17 undef = .int .i64 k := (hk 17 (Flow.mem_looks (by kernel_rfl))).before (by kernel_rfl)
              rw [if_pos (Flow.wanted_free rfl _)]
              refine Flow.step_value (v := .int .i64 k) ?_ ⟨rfl, rfl⟩
              simp [execOp, Act.eval, r17, go_sem]
            | 7, _, ho =>
              have ho2 := Option.some.inj ho; clear ho; subst ho2
              have r119 : a.tmps.getD 119 undef = .int .i64 k := (hk 119 (Flow.mem_looks (by kernel_rfl))).by_ 6 (by kernel_rfl) (by decide)
              rw [if_pos (Flow.wanted_free rfl _)]
              refine step_sub (.tmp 119) (.const (.int .i64 1)) rfl k 1 (k - 1) r119 rfl rfl (by omega) (by omega) ⟨rfl, rfl⟩
            | 8, _, ho =>
              have ho2 := Option.some.inj ho; clear ho; subst ho2
              have r118 : a.tmps.getD 118 undef = sl g N c := (hk 118 (Flow.mem_looks (by kernel_rfl))).by_ 5 (by kernel_rfl) (by decide)
              have r120 : a.tmps.getD 120 undef = .int .i64 (k - 1 : Nat) := (hk 120 (Flow.mem_looks (by kernel_rfl))).by_ 7 (by kernel_rfl) (by decide)
              rw [if_pos (Flow.wanted_free rfl _)]
              refine step_index (.tmp 118) (.tmp 120) rfl g N c (k - 1) r118 r120 h2 ⟨rfl, rfl⟩
            | 9, _, ho =>
              obtain rfl := hL (by decide)
              have ho2 := Option.some.inj ho; clear ho; subst ho2
              have r121 : a.tmps.getD 121 undef = .pointer (some ⟨g, (k - 1) * 5, none⟩) := (hk 121 (Flow.mem_looks (by kernel_rfl))).by_ 8 (by kernel_rfl) (by decide)
              rw [if_pos (Flow.wanted_free rfl _)]
              refine step_load_mid 24 (.tmp 121) rfl g (_ * 5) r121 y.cells _ (HY.out.range) Try.underlying24 rfl (item_info y) ⟨rfl, rfl⟩
            | 10, _, ho =>
              have ho2 := Option.some.inj ho; clear ho; subst ho2
              have r0 : a.tmps.getD 0 undef = sl g N c := (hk 0 (Flow.mem_looks (by kernel_rfl))).before (by kernel_rfl)
              rw [if_pos (Flow.wanted_free rfl _)]
              refine Flow.step_value (v := sl g N c) ?_ ⟨rfl, rfl⟩
              simp [execOp, Act.eval, r0, go_sem]
            | 11, _, ho =>
              have ho2 := Option.some.inj ho; clear ho; subst ho2
              have r17 : a.tmps.getD 17 undef = .int .i64 k := (hk 17 (Flow.mem_looks (by kernel_rfl))).before (by kernel_rfl)
              rw [if_pos (Flow.wanted_free rfl _)]
              refine Flow.step_value (v := .int .i64 k) ?_ ⟨rfl, rfl⟩
              simp [execOp, Act.eval, r17, go_sem]
            | 12, _, ho =>
              have ho2 := Option.some.inj ho; clear ho; subst ho2
              have r123 : a.tmps.getD 123 undef = sl g N c := (hk 123 (Flow.mem_looks (by kernel_rfl))).by_ 10 (by kernel_rfl) (by decide)
              have r124 : a.tmps.getD 124 undef = .int .i64 k := (hk 124 (Flow.mem_looks (by kernel_rfl))).by_ 11 (by kernel_rfl) (by decide)
              rw [if_pos (Flow.wanted_free rfl _)]
              refine step_index (.tmp 123) (.tmp 124) rfl g N c (k) r123 r124 h1 ⟨rfl, rfl⟩
            | 13, _, ho =>
              obtain rfl := hL (by decide)
              have ho2 := Option.some.inj ho; clear ho; subst ho2
              have r125 : a.tmps.getD 125 undef = .pointer (some ⟨g, (k) * 5, none⟩) := (hk 125 (Flow.mem_looks (by kernel_rfl))).by_ 12 (by kernel_rfl) (by decide)
              rw [if_pos (Flow.wanted_free rfl _)]
              refine step_load_mid 24 (.tmp 125) rfl g (_ * 5) r125 x.cells _ (HX.out.range) Try.underlying24 rfl (item_info x) ⟨rfl, rfl⟩
            | 14, _, ho =>
              have ho2 := Option.some.inj ho; clear ho; subst ho2
              have r113 : a.tmps.getD 113 undef = sl g N c := (hk 113 (Flow.mem_looks (by kernel_rfl))).by_ 0 (by kernel_rfl) (by decide)
              have r114 : a.tmps.getD 114 undef = .int .i64 k := (hk 114 (Flow.mem_looks (by kernel_rfl))).by_ 1 (by kernel_rfl) (by decide)
              rw [if_pos (Flow.wanted_free rfl _)]
              refine step_index (.tmp 113) (.tmp 114) rfl g N c (k) r113 r114 h1 ⟨rfl, rfl⟩
            | 15, _, _ => exact absurd rfl hne
            | 16, _, ho =>
              have ho2 := Option.some.inj ho; clear ho; subst ho2
              have r115 : a.tmps.getD 115 undef = sl g N c := (hk 115 (Flow.mem_looks (by kernel_rfl))).by_ 2 (by kernel_rfl) (by decide)
              have r117 : a.tmps.getD 117 undef = .int .i64 (k - 1 : Nat) := (hk 117 (Flow.mem_looks (by kernel_rfl))).by_ 4 (by kernel_rfl) (by decide)
              rw [if_pos (Flow.wanted_free rfl _)]
              refine step_index (.tmp 115) (.tmp 117) rfl g N c (k - 1) r115 r117 h2 ⟨rfl, rfl⟩
            | _ + 17, hi, _ => exact absurd hi (by omega)
          case locS =>
            intro o ho a hsz hk
            have ho2 := Option.some.inj ho; clear ho; subst ho2
            refine ⟨rfl, rfl, ?_⟩
            have r122 : a.tmps.getD 122 undef = .agg y.cells.toArray := (hk 122 (Flow.mem_looks (by kernel_rfl))).by_ 9 (by kernel_rfl) (by decide)
            have r127 : a.tmps.getD 127 undef = .pointer (some ⟨g, (k) * 5, none⟩) := (hk 127 (Flow.mem_looks (by kernel_rfl))).by_ 14 (by kernel_rfl) (by decide)
            refine step_store_mid 24 (.tmp 127) (.tmp 122) rfl g _ y.cells.toArray r127 r122 (OW.out.there h1) (item_info y) (all_oneCell_toArray (item_one y)) ?_
            exact fun _ => ⟨OwnI.put (OwnI.drawn OW.out) h1 y, grown_trans (drawn_grown _ _) (grown_setCells _ _ _ _)⟩
          case fin =>
            intro a5 w5 hK hd4 hs4 hg hold
            have ea := Flow.act_set (a := a5) hold hs4 hd4 [113, 114, 115, 116, 117, 118, 119, 120, 121, 122, 123, 124, 125, 126, 127, 128] (by kernel_rfl)
            have e128 : a5.tmps.getD 128 undef = .pointer (some ⟨g, (k - 1) * 5, none⟩) := hg 16 _ 128 (by decide) rfl rfl
            have e126 : a5.tmps.getD 126 undef = .agg x.cells.toArray := hg 13 _ 126 (by decide) rfl rfl
            simp only [Flow.sets, e128, e126, List.setIfInBounds_toArray, List.set_cons_succ, List.set_cons_zero] at ea
            rw [ea]
            generalize a5.tmps.getD 113 undef = z113
            generalize a5.tmps.getD 114 undef = z114
            generalize a5.tmps.getD 115 undef = z115
            generalize a5.tmps.getD 116 undef = z116
            generalize a5.tmps.getD 117 undef = z117
            generalize a5.tmps.getD 118 undef = z118
            generalize a5.tmps.getD 119 undef = z119
            generalize a5.tmps.getD 120 undef = z120
            generalize a5.tmps.getD 121 undef = z121
            generalize a5.tmps.getD 122 undef = z122
            generalize a5.tmps.getD 123 undef = z123
            generalize a5.tmps.getD 124 undef = z124
            generalize a5.tmps.getD 125 undef = z125
            generalize a5.tmps.getD 127 undef = z127
            clear ea e128 e126
            have OW6 := Lib.hid hK.1
            have GR6 := Lib.hid hK.2
            clear hd4 hs4 hg hold hK
            refine wpList_store_mid rfl 24 (.tmp 128) (.tmp 126) rfl g ((k - 1) * 5) x.cells.toArray rfl rfl (OW6.out.there h2) (item_info x) (all_oneCell_toArray (item_one x)) ?_
            obtain ⟨W7, hW7⟩ : ∃ W, W = w5.setCells g ((k - 1) * 5) x.cells := ⟨_, rfl⟩
            show wpList _ _ _ _ _ (w5.setCells g ((k - 1) * 5) x.cells)
            rw [← hW7]
            have OW7 := Lib.hid (show OwnI W7 base (sl g N c) N (sw M k (k - 1)) by rw [hW7, sw, ← EX.out, ← EY.out]; exact OW6.out.put h2 x)
            have GR7 := Lib.hid (show w.grownBy W7 (some g) by rw [hW7]; exact grown_trans GR.out (grown_trans GR6.out (grown_setCells _ _ _ _)))
            clear hW7
            go_wp2
            go_roundw
            case rel => exact ⟨k - 1, _, by go_num, by omega, by omega, OW7.out, GR7.out, by rw [EM.out, rot_down L m k (by omega) hk2 (by rw [HL.out]; omega)]⟩
            case measure => simp [intOf]; omega
        · have hkn2 : ¬ (i : Int) < k := by omega
          obtain rfl : i = k := by omega
          go_wp2
          refine bodyPost_ret (results_none rfl _ _ _) rfl ?_
          exact ⟨M, ⟨rfl, OW.out, GR.out⟩, by rw [EM.out]; exact LAW.out.1, by rw [EM.out]; exact LAW.out.2⟩
end Go.Proofs.Ytclfbjbbdfejkaa.Ord
