/- The merge in place, where the left half is one item. -/
import Derived.Test.YtclfbjbbdfejkaaOR
namespace Go.Proofs.Ytclfbjbbdfejkaa.Ord
open Go.RowKit

def G40a (g N c p h : Nat) (x y : Item) (z : Bool) : Nat → Value → World → Prop
  | 0 => fun v _ => v = fcmp
  | 1 => fun v _ => v = sl g N c
  | 2 => fun v _ => v = .int .i64 h
  | 3 => fun v _ => v = .pointer (some ⟨g, (h) * 5, none⟩)
  | 4 => fun v _ => v = .agg y.cells.toArray
  | 5 => fun v _ => v = sl g N c
  | 6 => fun v _ => v = .int .i64 p
  | 7 => fun v _ => v = .pointer (some ⟨g, (p) * 5, none⟩)
  | 8 => fun v _ => v = .agg x.cells.toArray
  | 9 => fun v _ => v = .int .i64 (kc y x)
  | 10 => fun v _ => v = .bool z
  | _ => fun _ _ => True
theorem G40a_stable (g N c p h : Nat) (x y : Item) (z : Bool) : ∀ i v w w', G40a g N c p h x y z i v w → Below w.heap.size w w' → G40a g N c p h x y z i v w' := by
  intro i v w w' h hb
  match i, h with
  | 0, h => exact h
  | 1, h => exact h
  | 2, h => exact h
  | 3, h => exact h
  | 4, h => exact h
  | 5, h => exact h
  | 6, h => exact h
  | 7, h => exact h
  | 8, h => exact h
  | 9, h => exact h
  | 10, h => exact h
  | _ + 11, _ => exact trivial
def G40s (g N c k : Nat) (x y : Item) : Nat → Value → World → Prop
  | 0 => fun v _ => v = sl g N c
  | 1 => fun v _ => v = .int .i64 k
  | 2 => fun v _ => v = sl g N c
  | 3 => fun v _ => v = .int .i64 k
  | 4 => fun v _ => v = .int .i64 (k + 1 : Nat)
  | 5 => fun v _ => v = sl g N c
  | 6 => fun v _ => v = .int .i64 k
  | 7 => fun v _ => v = .int .i64 (k + 1 : Nat)
  | 8 => fun v _ => v = .pointer (some ⟨g, (k + 1) * 5, none⟩)
  | 9 => fun v _ => v = .agg y.cells.toArray
  | 10 => fun v _ => v = sl g N c
  | 11 => fun v _ => v = .int .i64 k
  | 12 => fun v _ => v = .pointer (some ⟨g, (k) * 5, none⟩)
  | 13 => fun v _ => v = .agg x.cells.toArray
  | 14 => fun v _ => v = .pointer (some ⟨g, (k) * 5, none⟩)
  | 15 => fun _ _ => True
  | 16 => fun v _ => v = .pointer (some ⟨g, (k + 1) * 5, none⟩)
  | _ => fun _ _ => True
theorem G40s_pure (g N c k : Nat) (x y : Item) : ∀ i v w w', G40s g N c k x y i v w → G40s g N c k x y i v w' := by
  intro i v w w' h
  match i, h with
  | 0, h => exact h
  | 1, h => exact h
  | 2, h => exact h
  | 3, h => exact h
  | 4, h => exact h
  | 5, h => exact h
  | 6, h => exact h
  | 7, h => exact h
  | 8, h => exact h
  | 9, h => exact h
  | 10, h => exact h
  | 11, h => exact h
  | 12, h => exact h
  | 13, h => exact h
  | 14, h => exact h
  | 15, h => exact h
  | 16, h => exact h
  | _ + 17, _ => exact trivial
set_option maxRecDepth 100000 in
set_option maxHeartbeats 8000000 in
theorem mergeA_any (base g N c p b : Nat) (L : List Item) (w : World) (hO : OwnI w base (sl g N c) N L) (hm : p + 1 < b) (hb : b ≤ N) (hN : N ≤ 100000) (hs : Srt (p + 1) b L) :
    Calls Try.prog 40 #[sl g N c, .int .i64 p, .int .i64 (p + 1 : Nat), .int .i64 b, fcmp] w (Sorts w base g N c p b L) := by
  have HO := Lib.hid hO
  have HL := Lib.hid hO.len
  have HS := Lib.hid hs
  clear hO hs
  have e1 : ((p + 1 : Nat) : Int) = p + 1 := by omega
  have e2 : ((p : Int) + 1 - p) = 1 := by omega
  rw [e1]
  clear e1
  go_enter Try.func40, Try.ntmps40
  go_wp2
  go_loopw [10, 11] (fun s t wr => ∃ i j : Nat, s = .int .i64 i ∧ t = .int .i64 j ∧ p + 1 ≤ i ∧ i ≤ j ∧ j ≤ b ∧ OwnI wr base (sl g N c) N L ∧ w.grownBy wr (some g) ∧ (i = p + 1 ∨ kc (nth L (i - 1)) (nth L p) < 0) ∧ (j = b ∨ ¬ kc (nth L j) (nth L p) < 0)) (fun s t _ => (intOf t).toNat - (intOf s).toNat)
  case atStart => exact ⟨p + 1, b, by go_num, rfl, Nat.le_refl _, by omega, Nat.le_refl _, HO.out, grown_refl _ _, .inl rfl, .inl rfl⟩
  case round =>
    obtain ⟨i, j, rfl, rfl, hi, hij, hj, hown, hgr, hl, hr⟩ := hrel
    have OW := Lib.hid hown
    have GR := Lib.hid hgr
    have LO := Lib.hid hl
    have UP := Lib.hid hr
    clear hown hgr hl hr
    by_cases hlt : i < j
    · have hkn : (i : Int) < j := by omega
      obtain ⟨h, hh⟩ : ∃ h, h = (i + j) / 2 := ⟨_, rfl⟩
      have eh : ((i : Int) + j) / 2 = h := by omega
      have b1 : i ≤ h := by omega
      have b2 : h < j := by omega
      have h1 : h < N := by omega
      have h2 : p < N := by omega
      obtain ⟨x, hx⟩ : ∃ x, x = nth L p := ⟨_, rfl⟩
      obtain ⟨y, hy⟩ : ∃ y, y = nth L h := ⟨_, rfl⟩
      have HX := Lib.hid (show At wr g (p * 5) x.cells by rw [hx, nth_eq (by rw [HL.out]; exact h2)]; exact OW.out.at _)
      have HY := Lib.hid (show At wr g (h * 5) y.cells by rw [hy, nth_eq (by rw [HL.out]; exact h1)]; exact OW.out.at _)
      have EX := Lib.hid hx
      have EY := Lib.hid hy
      obtain ⟨z, hz⟩ : ∃ z, z = decide (kc y x < 0) := ⟨_, rfl⟩
      have HZ := Lib.hid hz.symm
      have EH := Lib.hid eh
      clear hx hy hz hh eh
      go_wp2_with fail
      rw [EH.out]
      refine Flow.wp_region_flow (by kernel_rfl) (G40a g N c p h x y z) (by kernel_rfl) (G40a_stable g N c p h x y z) ?loc ?fin
      case loc =>
        intro i o ho a w hw hk
        match i, ho with
        | 0, ho =>
          have ho2 := Option.some.inj ho; clear ho; subst ho2
          have r4 : a.tmps.getD 4 undef = fcmp := (hk 4 (Flow.mem_looks (by kernel_rfl))).before (by kernel_rfl)
          rw [if_pos (Flow.wanted_free rfl _)]
          refine Flow.step_value (v := fcmp) ?_ ⟨Below.refl _ _, rfl⟩
          simp [execOp, Act.eval, r4, go_sem]
        | 1, ho =>
          have ho2 := Option.some.inj ho; clear ho; subst ho2
          have r0 : a.tmps.getD 0 undef = sl g N c := (hk 0 (Flow.mem_looks (by kernel_rfl))).before (by kernel_rfl)
          rw [if_pos (Flow.wanted_free rfl _)]
          refine Flow.step_value (v := sl g N c) ?_ ⟨Below.refl _ _, rfl⟩
          simp [execOp, Act.eval, r0, go_sem]
        | 2, ho =>
          have ho2 := Option.some.inj ho; clear ho; subst ho2
          have r12 : a.tmps.getD 12 undef = .int .i64 h := (hk 12 (Flow.mem_looks (by kernel_rfl))).before (by kernel_rfl)
          rw [if_pos (Flow.wanted_free rfl _)]
          refine Flow.step_value (v := .int .i64 h) ?_ ⟨Below.refl _ _, rfl⟩
          simp [execOp, Act.eval, r12, go_sem]
        | 3, ho =>
          have ho2 := Option.some.inj ho; clear ho; subst ho2
          have r41 : a.tmps.getD 41 undef = sl g N c := (hk 41 (Flow.mem_looks (by kernel_rfl))).by_ 1 (by kernel_rfl) (by decide)
          have r42 : a.tmps.getD 42 undef = .int .i64 h := (hk 42 (Flow.mem_looks (by kernel_rfl))).by_ 2 (by kernel_rfl) (by decide)
          rw [if_pos (Flow.wanted_free rfl _)]
          refine step_index (.tmp 41) (.tmp 42) rfl g N c (h) r41 r42 h1 ⟨Below.refl _ _, rfl⟩
        | 4, ho =>
          have ho2 := Option.some.inj ho; clear ho; subst ho2
          have r43 : a.tmps.getD 43 undef = .pointer (some ⟨g, (h) * 5, none⟩) := (hk 43 (Flow.mem_looks (by kernel_rfl))).by_ 3 (by kernel_rfl) (by decide)
          rw [if_pos (Flow.wanted_free rfl _)]
          refine step_load_mid 24 (.tmp 43) rfl g (_ * 5) r43 y.cells _ (HY.out.below hw).range Try.underlying24 rfl (item_info y) ⟨Below.refl _ _, rfl⟩
        | 5, ho =>
          have ho2 := Option.some.inj ho; clear ho; subst ho2
          have r0 : a.tmps.getD 0 undef = sl g N c := (hk 0 (Flow.mem_looks (by kernel_rfl))).before (by kernel_rfl)
          rw [if_pos (Flow.wanted_free rfl _)]
          refine Flow.step_value (v := sl g N c) ?_ ⟨Below.refl _ _, rfl⟩
          simp [execOp, Act.eval, r0, go_sem]
        | 6, ho =>
          have ho2 := Option.some.inj ho; clear ho; subst ho2
          have r1 : a.tmps.getD 1 undef = .int .i64 p := (hk 1 (Flow.mem_looks (by kernel_rfl))).before (by kernel_rfl)
          rw [if_pos (Flow.wanted_free rfl _)]
          refine Flow.step_value (v := .int .i64 p) ?_ ⟨Below.refl _ _, rfl⟩
          simp [execOp, Act.eval, r1, go_sem]
        | 7, ho =>
          have ho2 := Option.some.inj ho; clear ho; subst ho2
          have r45 : a.tmps.getD 45 undef = sl g N c := (hk 45 (Flow.mem_looks (by kernel_rfl))).by_ 5 (by kernel_rfl) (by decide)
          have r46 : a.tmps.getD 46 undef = .int .i64 p := (hk 46 (Flow.mem_looks (by kernel_rfl))).by_ 6 (by kernel_rfl) (by decide)
          rw [if_pos (Flow.wanted_free rfl _)]
          refine step_index (.tmp 45) (.tmp 46) rfl g N c (p) r45 r46 h2 ⟨Below.refl _ _, rfl⟩
        | 8, ho =>
          have ho2 := Option.some.inj ho; clear ho; subst ho2
          have r47 : a.tmps.getD 47 undef = .pointer (some ⟨g, (p) * 5, none⟩) := (hk 47 (Flow.mem_looks (by kernel_rfl))).by_ 7 (by kernel_rfl) (by decide)
          rw [if_pos (Flow.wanted_free rfl _)]
          refine step_load_mid 24 (.tmp 47) rfl g (_ * 5) r47 x.cells _ (HX.out.below hw).range Try.underlying24 rfl (item_info x) ⟨Below.refl _ _, rfl⟩
        | 9, ho =>
          have ho2 := Option.some.inj ho; clear ho; subst ho2
          have r40 : a.tmps.getD 40 undef = fcmp := (hk 40 (Flow.mem_looks (by kernel_rfl))).by_ 0 (by kernel_rfl) (by decide)
          have r44 : a.tmps.getD 44 undef = .agg y.cells.toArray := (hk 44 (Flow.mem_looks (by kernel_rfl))).by_ 4 (by kernel_rfl) (by decide)
          have r48 : a.tmps.getD 48 undef = .agg x.cells.toArray := (hk 48 (Flow.mem_looks (by kernel_rfl))).by_ 8 (by kernel_rfl) (by decide)
          rw [if_pos (Flow.wanted_free rfl _)]
          refine Flow.step_call (f := 32) (args := #[.agg y.cells.toArray, .agg x.cells.toArray]) (by simp [execOp, Act.eval, r40, r44, r48, fcmp, go_sem]) ?_
          refine (cmp_any y x w).mono ?_
          rintro r w1 ⟨rfl, hb1⟩
          exact ⟨_, rfl, hb1, rfl⟩
        | 10, ho =>
          have ho2 := Option.some.inj ho; clear ho; subst ho2
          have r49 : a.tmps.getD 49 undef = .int .i64 (kc y x) := (hk 49 (Flow.mem_looks (by kernel_rfl))).by_ 9 (by kernel_rfl) (by decide)
          rw [if_pos (Flow.wanted_free rfl _)]
          refine Flow.step_value (v := .bool z) ?_ ⟨Below.refl _ _, rfl⟩
          simp [execOp, Act.eval, r49, HZ.out, go_sem]
        | _ + 11, ho => exact absurd ho (by simp)
      case fin =>
        intro a4 W5 hw4 hd4 hs4 hg hold
        have ea := Flow.act_set (a := a4) hold hs4 hd4 [40, 41, 42, 43, 44, 45, 46, 47, 48, 49, 50] (by kernel_rfl)
        have e50 : a4.tmps.getD 50 undef = .bool z := hg 10 _ 50 rfl rfl
        simp only [Flow.sets, e50, List.setIfInBounds_toArray, List.set_cons_succ, List.set_cons_zero] at ea
        rw [ea]
        generalize a4.tmps.getD 40 undef = z40
        generalize a4.tmps.getD 41 undef = z41
        generalize a4.tmps.getD 42 undef = z42
        generalize a4.tmps.getD 43 undef = z43
        generalize a4.tmps.getD 44 undef = z44
        generalize a4.tmps.getD 45 undef = z45
        generalize a4.tmps.getD 46 undef = z46
        generalize a4.tmps.getD 47 undef = z47
        generalize a4.tmps.getD 48 undef = z48
        generalize a4.tmps.getD 49 undef = z49
        clear ea e50
        have OW5 := Lib.hid (OW.out.below hw4)
        have GR5 := Lib.hid (grown_trans GR.out (below_grown' hw4 _))
        clear hd4 hs4 hg hold hw4
        refine (‹∀ (a : Act) (w : World), Code.wp _ _ _ a w → _›) _ _ ?_
        cases z with
        | false =>
          have hzz := of_decide_eq_false HZ.out
          rw [EX.out, EY.out] at hzz
          have UZ := Lib.hid hzz
          clear hzz
          go_wp2
          go_roundw
          case rel => exact ⟨i, h, rfl, rfl, hi, b1, by omega, OW5.out, GR5.out, LO.out, .inr UZ.out⟩
          case measure => simp [intOf]; omega
        | true =>
          have hzz := of_decide_eq_true HZ.out
          rw [EX.out, EY.out] at hzz
          have LZ := Lib.hid hzz
          clear hzz
          go_wp2
          go_roundw
          case rel => exact ⟨h + 1, j, by go_num, rfl, by omega, b2, hj, OW5.out, GR5.out, .inr (by rw [Nat.add_sub_cancel]; exact LZ.out), UP.out.imp (fun q => q) (fun q => by omega)⟩
          case measure => simp [intOf]; omega
    · have hkn : ¬ (i : Int) < j := by omega
      obtain rfl : i = j := by omega
      have LAW := Lib.hid (srt_rot_up HS.out hi hj (by rw [HL.out]; exact hb) LO.out (UP.out.imp (fun q => q) (fun q => by omega)))
      go_wp2
      go_loopw [13] (fun s wr => ∃ k : Nat, ∃ M, s = .int .i64 k ∧ p ≤ k ∧ k + 1 ≤ i ∧ OwnI wr base (sl g N c) N M ∧ w.grownBy wr (some g) ∧ M = rot p (p + 1) (k + 1) L) (fun s _ => i - (intOf s).toNat)
      case atStart => exact ⟨p, L, rfl, Nat.le_refl _, hi, OW.out, GR.out, (rot_none _ _ _).symm⟩
      case round =>
        obtain ⟨k, M, rfl, hk1, hk2, hown, hgr, hM⟩ := hrel
        have OW := Lib.hid hown
        have GR := Lib.hid hgr
        have EM := Lib.hid hM
        have ML := Lib.hid hown.len
        clear hown hgr hM
        by_cases hlt2 : k + 1 < i
        · have hkn2 : (k : Int) < i - 1 := by omega
          have h1 : k < N := by omega
          have h2 : k + 1 < N := by omega
          obtain ⟨x, hx⟩ : ∃ x, x = nth M k := ⟨_, rfl⟩
          obtain ⟨y, hy⟩ : ∃ y, y = nth M (k + 1) := ⟨_, rfl⟩
          have HX := Lib.hid (show At wr g (k * 5) x.cells by rw [hx, nth_eq (by rw [ML.out]; exact h1)]; exact OW.out.at _)
          have HY := Lib.hid (show At wr g ((k + 1) * 5) y.cells by rw [hy, nth_eq (by rw [ML.out]; exact h2)]; exact OW.out.at _)
          have EX := Lib.hid hx
          have EY := Lib.hid hy
          clear hx hy
          go_wp2_with fail
          refine Flow.wp_region_two (m := 17) (s := 15) (by kernel_rfl) [9, 13] (G40s g N c k x y) (fun w2 => OwnI w2 base (sl g N c) N (M.set k y) ∧ wr.grownBy w2 (some g)) (by kernel_rfl) rfl (by kernel_rfl) (G40s_pure g N c k x y) ?loc ?locS ?fin
          case loc =>
            intro i o hi ho hne a w hL hk
            match i, hi, ho with
            | 0, _, ho =>
              have ho2 := Option.some.inj ho; clear ho; subst ho2
              have r0 : a.tmps.getD 0 undef = sl g N c := (hk 0 (Flow.mem_looks (by kernel_rfl))).before (by kernel_rfl)
              rw [if_pos (Flow.wanted_free rfl _)]
              refine Flow.step_value (v := sl g N c) ?_ ⟨rfl, rfl⟩
              simp [execOp, Act.eval, r0, go_sem]
            | 1, _, ho =>
              have ho2 := Option.some.inj ho; clear ho; subst ho2
              have r13 : a.tmps.getD 13 undef = .int .i64 k := (hk 13 (Flow.mem_looks (by kernel_rfl))).before (by kernel_rfl)
              rw [if_pos (Flow.wanted_free rfl _)]
              refine Flow.step_value (v := .int .i64 k) ?_ ⟨rfl, rfl⟩
              simp [execOp, Act.eval, r13, go_sem]
            | 2, _, ho =>
              have ho2 := Option.some.inj ho; clear ho; subst ho2
              have r0 : a.tmps.getD 0 undef = sl g N c := (hk 0 (Flow.mem_looks (by kernel_rfl))).before (by kernel_rfl)
              rw [if_pos (Flow.wanted_free rfl _)]
              refine Flow.step_value (v := sl g N c) ?_ ⟨rfl, rfl⟩
              simp [execOp, Act.eval, r0, go_sem]
            | 3, _, ho =>
              have ho2 := Option.some.inj ho; clear ho; subst ho2
              have r13 : a.tmps.getD 13 undef = .int .i64 k := (hk 13 (Flow.mem_looks (by kernel_rfl))).before (by kernel_rfl)
              rw [if_pos (Flow.wanted_free rfl _)]
              refine Flow.step_value (v := .int .i64 k) ?_ ⟨rfl, rfl⟩
              simp [execOp, Act.eval, r13, go_sem]
            | 4, _, ho =>
              have ho2 := Option.some.inj ho; clear ho; subst ho2
              have r64 : a.tmps.getD 64 undef = .int .i64 k := (hk 64 (Flow.mem_looks (by kernel_rfl))).by_ 3 (by kernel_rfl) (by decide)
              rw [if_pos (Flow.wanted_free rfl _)]
              refine step_add (.tmp 64) (.const (.int .i64 1)) rfl k 1 (k + 1) r64 rfl rfl (by omega) ⟨rfl, rfl⟩
            | 5, _, ho =>
              have ho2 := Option.some.inj ho; clear ho; subst ho2
              have r0 : a.tmps.getD 0 undef = sl g N c := (hk 0 (Flow.mem_looks (by kernel_rfl))).before (by kernel_rfl)
              rw [if_pos (Flow.wanted_free rfl _)]
              refine Flow.step_value (v := sl g N c) ?_ ⟨rfl, rfl⟩
              simp [execOp, Act.eval, r0, go_sem]
            | 6, _, ho =>
              have ho2 := Option.some.inj ho; clear ho; subst ho2
              have r13 : a.tmps.getD 13 undef = .int .i64 k := (hk 13 (Flow.mem_looks (by kernel_rfl))).before (by kernel_rfl)
              rw [if_pos (Flow.wanted_free rfl _)]
              refine Flow.step_value (v := .int .i64 k) ?_ ⟨rfl, rfl⟩
              simp [execOp, Act.eval, r13, go_sem]
            | 7, _, ho =>
              have ho2 := Option.some.inj ho; clear ho; subst ho2
              have r67 : a.tmps.getD 67 undef = .int .i64 k := (hk 67 (Flow.mem_looks (by kernel_rfl))).by_ 6 (by kernel_rfl) (by decide)
              rw [if_pos (Flow.wanted_free rfl _)]
              refine step_add (.tmp 67) (.const (.int .i64 1)) rfl k 1 (k + 1) r67 rfl rfl (by omega) ⟨rfl, rfl⟩
            | 8, _, ho =>
              have ho2 := Option.some.inj ho; clear ho; subst ho2
              have r66 : a.tmps.getD 66 undef = sl g N c := (hk 66 (Flow.mem_looks (by kernel_rfl))).by_ 5 (by kernel_rfl) (by decide)
              have r68 : a.tmps.getD 68 undef = .int .i64 (k + 1 : Nat) := (hk 68 (Flow.mem_looks (by kernel_rfl))).by_ 7 (by kernel_rfl) (by decide)
              rw [if_pos (Flow.wanted_free rfl _)]
              refine step_index (.tmp 66) (.tmp 68) rfl g N c (k + 1) r66 r68 h2 ⟨rfl, rfl⟩
            | 9, _, ho =>
              obtain rfl := hL (by decide)
              have ho2 := Option.some.inj ho; clear ho; subst ho2
              have r69 : a.tmps.getD 69 undef = .pointer (some ⟨g, (k + 1) * 5, none⟩) := (hk 69 (Flow.mem_looks (by kernel_rfl))).by_ 8 (by kernel_rfl) (by decide)
              rw [if_pos (Flow.wanted_free rfl _)]
              refine step_load_mid 24 (.tmp 69) rfl g (_ * 5) r69 y.cells _ (HY.out.range) Try.underlying24 rfl (item_info y) ⟨rfl, rfl⟩
            | 10, _, ho =>
              have ho2 := Option.some.inj ho; clear ho; subst ho2
              have r0 : a.tmps.getD 0 undef = sl g N c := (hk 0 (Flow.mem_looks (by kernel_rfl))).before (by kernel_rfl)
              rw [if_pos (Flow.wanted_free rfl _)]
              refine Flow.step_value (v := sl g N c) ?_ ⟨rfl, rfl⟩
              simp [execOp, Act.eval, r0, go_sem]
            | 11, _, ho =>
              have ho2 := Option.some.inj ho; clear ho; subst ho2
              have r13 : a.tmps.getD 13 undef = .int .i64 k := (hk 13 (Flow.mem_looks (by kernel_rfl))).before (by kernel_rfl)
              rw [if_pos (Flow.wanted_free rfl _)]
              refine Flow.step_value (v := .int .i64 k) ?_ ⟨rfl, rfl⟩
              simp [execOp, Act.eval, r13, go_sem]
            | 12, _, ho =>
              have ho2 := Option.some.inj ho; clear ho; subst ho2
              have r71 : a.tmps.getD 71 undef = sl g N c := (hk 71 (Flow.mem_looks (by kernel_rfl))).by_ 10 (by kernel_rfl) (by decide)
              have r72 : a.tmps.getD 72 undef = .int .i64 k := (hk 72 (Flow.mem_looks (by kernel_rfl))).by_ 11 (by kernel_rfl) (by decide)
              rw [if_pos (Flow.wanted_free rfl _)]
              refine step_index (.tmp 71) (.tmp 72) rfl g N c (k) r71 r72 h1 ⟨rfl, rfl⟩
            | 13, _, ho =>
              obtain rfl := hL (by decide)
              have ho2 := Option.some.inj ho; clear ho; subst ho2
              have r73 : a.tmps.getD 73 undef = .pointer (some ⟨g, (k) * 5, none⟩) := (hk 73 (Flow.mem_looks (by kernel_rfl))).by_ 12 (by kernel_rfl) (by decide)
              rw [if_pos (Flow.wanted_free rfl _)]
              refine step_load_mid 24 (.tmp 73) rfl g (_ * 5) r73 x.cells _ (HX.out.range) Try.underlying24 rfl (item_info x) ⟨rfl, rfl⟩
            | 14, _, ho =>
              have ho2 := Option.some.inj ho; clear ho; subst ho2
              have r61 : a.tmps.getD 61 undef = sl g N c := (hk 61 (Flow.mem_looks (by kernel_rfl))).by_ 0 (by kernel_rfl) (by decide)
              have r62 : a.tmps.getD 62 undef = .int .i64 k := (hk 62 (Flow.mem_looks (by kernel_rfl))).by_ 1 (by kernel_rfl) (by decide)
              rw [if_pos (Flow.wanted_free rfl _)]
              refine step_index (.tmp 61) (.tmp 62) rfl g N c (k) r61 r62 h1 ⟨rfl, rfl⟩
            | 15, _, _ => exact absurd rfl hne
            | 16, _, ho =>
              have ho2 := Option.some.inj ho; clear ho; subst ho2
              have r63 : a.tmps.getD 63 undef = sl g N c := (hk 63 (Flow.mem_looks (by kernel_rfl))).by_ 2 (by kernel_rfl) (by decide)
              have r65 : a.tmps.getD 65 undef = .int .i64 (k + 1 : Nat) := (hk 65 (Flow.mem_looks (by kernel_rfl))).by_ 4 (by kernel_rfl) (by decide)
              rw [if_pos (Flow.wanted_free rfl _)]
              refine step_index (.tmp 63) (.tmp 65) rfl g N c (k + 1) r63 r65 h2 ⟨rfl, rfl⟩
            | _ + 17, hi, _ => exact absurd hi (by omega)
          case locS =>
            intro o ho a hsz hk
            have ho2 := Option.some.inj ho; clear ho; subst ho2
            refine ⟨rfl, rfl, ?_⟩
            have r70 : a.tmps.getD 70 undef = .agg y.cells.toArray := (hk 70 (Flow.mem_looks (by kernel_rfl))).by_ 9 (by kernel_rfl) (by decide)
            have r75 : a.tmps.getD 75 undef = .pointer (some ⟨g, (k) * 5, none⟩) := (hk 75 (Flow.mem_looks (by kernel_rfl))).by_ 14 (by kernel_rfl) (by decide)
            refine step_store_mid 24 (.tmp 75) (.tmp 70) rfl g _ y.cells.toArray r75 r70 (OW.out.there h1) (item_info y) (all_oneCell_toArray (item_one y)) ?_
            exact fun _ => ⟨OwnI.put (OwnI.drawn OW.out) h1 y, grown_trans (drawn_grown _ _) (grown_setCells _ _ _ _)⟩
          case fin =>
            intro a5 w5 hK hd4 hs4 hg hold
            have ea := Flow.act_set (a := a5) hold hs4 hd4 [61, 62, 63, 64, 65, 66, 67, 68, 69, 70, 71, 72, 73, 74, 75, 76] (by kernel_rfl)
            have e76 : a5.tmps.getD 76 undef = .pointer (some ⟨g, (k + 1) * 5, none⟩) := hg 16 _ 76 (by decide) rfl rfl
            have e74 : a5.tmps.getD 74 undef = .agg x.cells.toArray := hg 13 _ 74 (by decide) rfl rfl
            simp only [Flow.sets, e76, e74, List.setIfInBounds_toArray, List.set_cons_succ, List.set_cons_zero] at ea
            rw [ea]
            generalize a5.tmps.getD 61 undef = z61
            generalize a5.tmps.getD 62 undef = z62
            generalize a5.tmps.getD 63 undef = z63
            generalize a5.tmps.getD 64 undef = z64
            generalize a5.tmps.getD 65 undef = z65
            generalize a5.tmps.getD 66 undef = z66
            generalize a5.tmps.getD 67 undef = z67
            generalize a5.tmps.getD 68 undef = z68
            generalize a5.tmps.getD 69 undef = z69
            generalize a5.tmps.getD 70 undef = z70
            generalize a5.tmps.getD 71 undef = z71
            generalize a5.tmps.getD 72 undef = z72
            generalize a5.tmps.getD 73 undef = z73
            generalize a5.tmps.getD 75 undef = z75
            clear ea e76 e74
            have OW6 := Lib.hid hK.1
            have GR6 := Lib.hid hK.2
            clear hd4 hs4 hg hold hK
            refine wpList_store_mid rfl 24 (.tmp 76) (.tmp 74) rfl g ((k + 1) * 5) x.cells.toArray rfl rfl (OW6.out.there h2) (item_info x) (all_oneCell_toArray (item_one x)) ?_
            obtain ⟨W7, hW7⟩ : ∃ W, W = w5.setCells g ((k + 1) * 5) x.cells := ⟨_, rfl⟩
            show wpList _ _ _ _ _ (w5.setCells g ((k + 1) * 5) x.cells)
            rw [← hW7]
            have OW7 := Lib.hid (show OwnI W7 base (sl g N c) N (sw M k (k + 1)) by rw [hW7, sw, ← EX.out, ← EY.out]; exact OW6.out.put h2 x)
            have GR7 := Lib.hid (show w.grownBy W7 (some g) by rw [hW7]; exact grown_trans GR.out (grown_trans GR6.out (grown_setCells _ _ _ _)))
            clear hW7
            go_wp2
            go_roundw
            case rel => exact ⟨k + 1, _, by go_num, by omega, by omega, OW7.out, GR7.out, by rw [EM.out, rot_up L p k hk1 (by rw [HL.out]; omega)]⟩
            case measure => simp [intOf]; omega
        · have hkn2 : ¬ (k : Int) < i - 1 := by omega
          obtain rfl : i = k + 1 := by omega
          go_wp2
          refine bodyPost_ret (results_none rfl _ _ _) rfl ?_
          exact ⟨M, ⟨rfl, OW.out, GR.out⟩, by rw [EM.out]; exact LAW.out.1, by rw [EM.out]; exact LAW.out.2⟩
end Go.Proofs.Ytclfbjbbdfejkaa.Ord
