/- A stretch is sorted by insertion. -/
import Derived.Test.YtclfbjbbdfejkaaO8
namespace Go.Proofs.Ytclfbjbbdfejkaa.Ord
open Go.RowKit

/-- Sort's comparison, as a value. -/
def fcmp : Value := .func (Fn.func 32) #[] #[]
/-- All but the one at j is in its place. -/
def InsI (lo i j : Nat) (M : List Item) : Prop := ∀ p q, lo ≤ p → p < q → q ≤ i → q ≠ j → kc (nth M p) (nth M q) ≤ 0
theorem ins_start {lo i : Nat} {M : List Item} (h : Srt lo i M) : InsI lo i i M := fun p q h1 h2 h3 h4 => h p q h1 h2 (by omega)
theorem ins_exit {lo i j : Nat} {M : List Item} (h : InsI lo i j M) (hj : lo ≤ j) (hx : j = lo ∨ ¬ kc (nth M j) (nth M (j - 1)) < 0) : Srt lo (i + 1) M := by
  intro p q h1 h2 h3
  by_cases hq : q = j
  · subst hq
    rcases hx with rfl | hx
    · omega
    · have h4 := kc_le_of_not hx
      by_cases hp : p = q - 1
      · rw [hp]; exact h4
      · exact kc_trans (h p (q - 1) h1 (by omega) (by omega) (by omega)) h4
  · exact h p q h1 h2 (by omega) hq
theorem nth_sw {M : List Item} {i j t : Nat} (hi : i < M.length) (hj : j < M.length) (ht : t < M.length) : nth (sw M i j) t = nth M (swI i j t) := by rw [sw_pick M hi hj, nth_pick _ _ ht]
theorem ins_step {lo i j : Nat} {M : List Item} (h : InsI lo i j M) (hj : lo < j) (hji : j ≤ i) (hi : i < M.length) (hx : kc (nth M j) (nth M (j - 1)) < 0) : InsI lo i (j - 1) (sw M j (j - 1)) := by
  intro p q h1 h2 h3 h4
  rw [nth_sw (by omega) (by omega) (by omega), nth_sw (by omega) (by omega) (by omega)]
  unfold swI
  by_cases hq : q = j
  · subst hq
    rw [if_neg (show ¬ q = q - 1 by omega), if_pos rfl]
    by_cases hp : p = q - 1
    · rw [if_pos hp]; exact kc_le_of_lt hx
    · rw [if_neg hp, if_neg (by omega)]
      exact h p (q - 1) h1 (by omega) (by omega) (by omega)
  · rw [if_neg h4, if_neg hq]
    split
    · exact h j q (by omega) (by omega) h3 hq
    · split
      · exact h (j - 1) q (by omega) (by omega) h3 hq
      · exact h p q h1 h2 h3 hq
theorem sw_tr {lo up j : Nat} {M : List Item} (hj : lo < j) (hu : j < up) (hi : j < M.length) (hx : kc (nth M j) (nth M (j - 1)) < 0) : Tr lo up M (sw M j (j - 1)) := by
  obtain ⟨k, rfl⟩ : ∃ k, j = k + 1 := ⟨j - 1, by omega⟩
  rw [show k + 1 - 1 = k by omega] at *
  rw [sw_comm M hi (by omega), sw_rot M k hi]
  refine (rot_tr (by omega) (by omega) (by omega) fun x y h1 h2 h3 h4 => ?_).mono (a' := lo) (b' := up) (by omega) (by omega)
  obtain rfl : x = k := by omega
  obtain rfl : y = x + 1 := by omega
  exact hx
def G39t (g N c lo j : Nat) (x y : Item) (z : Bool) : Nat → Value → World → Prop
  | 0 => fun v _ => v = .int .i64 j
  | 1 => fun v _ => v = .int .i64 lo
  | 2 => fun v _ => v = .bool true
  | 3 => fun v _ => v = .bool true
  | 4 => fun v _ => v = fcmp
  | 5 => fun v _ => v = sl g N c
  | 6 => fun v _ => v = .int .i64 j
  | 7 => fun v _ => v = .pointer (some ⟨g, (j) * 5, none⟩)
  | 8 => fun v _ => v = .agg y.cells.toArray
  | 9 => fun v _ => v = sl g N c
  | 10 => fun v _ => v = .int .i64 j
  | 11 => fun v _ => v = .int .i64 (j - 1 : Nat)
  | 12 => fun v _ => v = .pointer (some ⟨g, (j - 1) * 5, none⟩)
  | 13 => fun v _ => v = .agg x.cells.toArray
  | 14 => fun v _ => v = .int .i64 (kc y x)
  | 15 => fun v _ => v = .bool z
  | 16 => fun v _ => v = .bool z
  | _ => fun _ _ => True
theorem G39t_stable (g N c lo j : Nat) (x y : Item) (z : Bool) : ∀ i v w w', G39t g N c lo j x y z i v w → Below w.heap.size w w' → G39t g N c lo j x y z i v w' := by
  intro i v w w' h hb
  match i, h with
  | 0, h => exact h
  | 1, h => exact h
  | 2, h => exact h
  | 3, h => exact h
  | 4, h => exact h
  | 5, h => exact h
  | 6, h => exact h
  | 7, h => exact h
  | 8, h => exact h
  | 9, h => exact h
  | 10, h => exact h
  | 11, h => exact h
  | 12, h => exact h
  | 13, h => exact h
  | 14, h => exact h
  | 15, h => exact h
  | 16, h => exact h
  | _ + 17, _ => exact trivial
def G39f (_g _N _c lo j : Nat) (_x _y : Item) (_z : Bool) : Nat → Value → World → Prop
  | 0 => fun v _ => v = .int .i64 j
  | 1 => fun v _ => v = .int .i64 lo
  | 2 => fun v _ => v = .bool false
  | 3 => fun v _ => v = .bool false
  | 4 => fun v _ => v = undef
  | 5 => fun v _ => v = undef
  | 6 => fun v _ => v = undef
  | 7 => fun v _ => v = undef
  | 8 => fun v _ => v = undef
  | 9 => fun v _ => v = undef
  | 10 => fun v _ => v = undef
  | 11 => fun v _ => v = undef
  | 12 => fun v _ => v = undef
  | 13 => fun v _ => v = undef
  | 14 => fun v _ => v = undef
  | 15 => fun v _ => v = undef
  | 16 => fun v _ => v = .bool false
  | _ => fun _ _ => True
theorem G39f_stable (g N c lo j : Nat) (x y : Item) (z : Bool) : ∀ i v w w', G39f g N c lo j x y z i v w → Below w.heap.size w w' → G39f g N c lo j x y z i v w' := by
  intro i v w w' h hb
  match i, h with
  | 0, h => exact h
  | 1, h => exact h
  | 2, h => exact h
  | 3, h => exact h
  | 4, h => exact h
  | 5, h => exact h
  | 6, h => exact h
  | 7, h => exact h
  | 8, h => exact h
  | 9, h => exact h
  | 10, h => exact h
  | 11, h => exact h
  | 12, h => exact h
  | 13, h => exact h
  | 14, h => exact h
  | 15, h => exact h
  | 16, h => exact h
  | _ + 17, _ => exact trivial
def G39s (g N c j : Nat) (x y : Item) : Nat → Value → World → Prop
  | 0 => fun v _ => v = sl g N c
  | 1 => fun v _ => v = .int .i64 j
  | 2 => fun v _ => v = sl g N c
  | 3 => fun v _ => v = .int .i64 j
  | 4 => fun v _ => v = .int .i64 (j - 1 : Nat)
  | 5 => fun v _ => v = sl g N c
  | 6 => fun v _ => v = .int .i64 j
  | 7 => fun v _ => v = .int .i64 (j - 1 : Nat)
  | 8 => fun v _ => v = .pointer (some ⟨g, (j - 1) * 5, none⟩)
  | 9 => fun v _ => v = .agg x.cells.toArray
  | 10 => fun v _ => v = sl g N c
  | 11 => fun v _ => v = .int .i64 j
  | 12 => fun v _ => v = .pointer (some ⟨g, (j) * 5, none⟩)
  | 13 => fun v _ => v = .agg y.cells.toArray
  | 14 => fun v _ => v = .pointer (some ⟨g, (j) * 5, none⟩)
  | 15 => fun _ _ => True
  | 16 => fun v _ => v = .pointer (some ⟨g, (j - 1) * 5, none⟩)
  | _ => fun _ _ => True
theorem G39s_pure (g N c j : Nat) (x y : Item) : ∀ i v w w', G39s g N c j x y i v w → G39s g N c j x y i v w' := by
  intro i v w w' h
  match i, h with
  | 0, h => exact h
  | 1, h => exact h
  | 2, h => exact h
  | 3, h => exact h
  | 4, h => exact h
  | 5, h => exact h
  | 6, h => exact h
  | 7, h => exact h
  | 8, h => exact h
  | 9, h => exact h
  | 10, h => exact h
  | 11, h => exact h
  | 12, h => exact h
  | 13, h => exact h
  | 14, h => exact h
  | 15, h => exact h
  | 16, h => exact h
  | _ + 17, _ => exact trivial
def Sorts (w : World) (base g N c lo up : Nat) (L : List Item) (e : Ending) (w' : World) : Prop := ∃ R, Turns w base g N c R e w' ∧ Tr lo up L R ∧ Srt lo up R
set_option maxRecDepth 100000 in
set_option maxHeartbeats 8000000 in
theorem insertion_any (base g N c lo up : Nat) (L : List Item) (w : World) (hO : OwnI w base (sl g N c) N L) (hlo : lo ≤ up) (hup : up ≤ N) (hN : N ≤ 100000) :
    Calls Try.prog 39 #[sl g N c, .int .i64 lo, .int .i64 up, fcmp] w (Sorts w base g N c lo up L) := by
  have HO := Lib.hid hO
  have HL := Lib.hid hO.len
  clear hO
  go_enter Try.func39, Try.ntmps39
  go_wp2
  go_loopw [8] (fun s wr => ∃ k : Nat, ∃ M, s = .int .i64 k ∧ lo + 1 ≤ k ∧ k ≤ up + 1 ∧ OwnI wr base (sl g N c) N M ∧ w.grownBy wr (some g) ∧ Tr lo up L M ∧ Srt lo k M) (fun s _ => up + 1 - (intOf s).toNat)
  case atStart => exact ⟨lo + 1, L, by go_num, Nat.le_refl _, by omega, HO.out, grown_refl _ _, Tr.refl _ _ _, fun i j h1 h2 h3 => by omega⟩
  case round =>
    obtain ⟨k, M0, rfl, hk1, hk2, hown, hgr, htr, hsr⟩ := hrel
    have OW0 := Lib.hid hown
    have GR0 := Lib.hid hgr
    have TR0 := Lib.hid htr
    have SR0 := Lib.hid hsr
    clear hown hgr htr hsr
    by_cases hlt : k < up
    · have hkn : (k : Int) < up := by omega
      go_wp2
      go_loopw [9] (fun s wr => ∃ j : Nat, ∃ M, s = .int .i64 j ∧ lo ≤ j ∧ j ≤ k ∧ OwnI wr base (sl g N c) N M ∧ w.grownBy wr (some g) ∧ Tr lo up L M ∧ InsI lo k j M) (fun s _ => (intOf s).toNat)
      case atStart => exact ⟨k, M0, rfl, by omega, Nat.le_refl _, OW0.out, GR0.out, TR0.out, ins_start SR0.out⟩
      case round =>
        obtain ⟨j, M, rfl, hj1, hj2, hown, hgr, htr, hin⟩ := hrel
        have OW := Lib.hid hown
        have GR := Lib.hid hgr
        have TR := Lib.hid htr
        have IN := Lib.hid hin
        have ML := Lib.hid hown.len
        clear hown hgr htr hin
        by_cases hj : lo < j
        · have hgt : decide ((lo : Int) < j) = true := decide_eq_true (by omega)
          have h1 : j < N := by omega
          have h2 : j - 1 < N := by omega
          obtain ⟨x, hx⟩ : ∃ x, x = nth M (j - 1) := ⟨_, rfl⟩
          obtain ⟨y, hy⟩ : ∃ y, y = nth M j := ⟨_, rfl⟩
          have HX := Lib.hid (show At wr g ((j - 1) * 5) x.cells by rw [hx, nth_eq (by rw [ML.out]; exact h2)]; exact OW.out.at _)
          have HY := Lib.hid (show At wr g (j * 5) y.cells by rw [hy, nth_eq (by rw [ML.out]; exact h1)]; exact OW.out.at _)
          have EX := Lib.hid hx
          have EY := Lib.hid hy
          obtain ⟨z, hz⟩ : ∃ z, z = decide (kc y x < 0) := ⟨_, rfl⟩
          have HZ := Lib.hid hz.symm
          clear hx hy hz
          go_wp2_with fail
          refine Flow.wp_region_flow (by kernel_rfl) (G39t g N c lo j x y z) (by kernel_rfl) (G39t_stable g N c lo j x y z) ?loc ?fin
          case loc =>
            intro i o ho a w hw hk
            match i, ho with
            | 0, ho =>
              have ho2 := Option.some.inj ho; clear ho; subst ho2
              have r9 : a.tmps.getD 9 undef = .int .i64 j := (hk 9 (Flow.mem_looks (by kernel_rfl))).before (by kernel_rfl)
              rw [if_pos (Flow.wanted_free rfl _)]
              refine Flow.step_value (v := .int .i64 j) ?_ ⟨Below.refl _ _, rfl⟩
              simp [execOp, Act.eval, r9, go_sem]
            | 1, ho =>
              have ho2 := Option.some.inj ho; clear ho; subst ho2
              have r1 : a.tmps.getD 1 undef = .int .i64 lo := (hk 1 (Flow.mem_looks (by kernel_rfl))).before (by kernel_rfl)
              rw [if_pos (Flow.wanted_free rfl _)]
              refine Flow.step_value (v := .int .i64 lo) ?_ ⟨Below.refl _ _, rfl⟩
              simp [execOp, Act.eval, r1, go_sem]
            | 2, ho =>
              have ho2 := Option.some.inj ho; clear ho; subst ho2
              have r18 : a.tmps.getD 18 undef = .int .i64 j := (hk 18 (Flow.mem_looks (by kernel_rfl))).by_ 0 (by kernel_rfl) (by decide)
              have r19 : a.tmps.getD 19 undef = .int .i64 lo := (hk 19 (Flow.mem_looks (by kernel_rfl))).by_ 1 (by kernel_rfl) (by decide)
              rw [if_pos (Flow.wanted_free rfl _)]
              refine Flow.step_value (v := .bool true) ?_ ⟨Below.refl _ _, rfl⟩
              simp [execOp, Act.eval, r18, r19, go_sem]
              omega
            | 3, ho =>
              have ho2 := Option.some.inj ho; clear ho; subst ho2
              have r20 : a.tmps.getD 20 undef = .bool true := (hk 20 (Flow.mem_looks (by kernel_rfl))).by_ 2 (by kernel_rfl) (by decide)
              rw [if_pos (Flow.wanted_free rfl _)]
              refine Flow.step_value (v := .bool true) ?_ ⟨Below.refl _ _, rfl⟩
              simp [execOp, Act.eval, r20, go_sem]
            | 4, ho =>
              have ho2 := Option.some.inj ho; clear ho; subst ho2
              have r3 : a.tmps.getD 3 undef = fcmp := (hk 3 (Flow.mem_looks (by kernel_rfl))).before (by kernel_rfl)
              have r21 : a.tmps.getD 21 undef = .bool true := (hk 21 (Flow.mem_looks (by kernel_rfl))).by_ 3 (by kernel_rfl) (by decide)
              rw [if_pos (Flow.wanted_by (t := 21) rfl (by kernel_rfl) r21)]
              refine Flow.step_value (v := fcmp) ?_ ⟨Below.refl _ _, rfl⟩
              simp [execOp, Act.eval, r3, go_sem]
            | 5, ho =>
              have ho2 := Option.some.inj ho; clear ho; subst ho2
              have r0 : a.tmps.getD 0 undef = sl g N c := (hk 0 (Flow.mem_looks (by kernel_rfl))).before (by kernel_rfl)
              have r21 : a.tmps.getD 21 undef = .bool true := (hk 21 (Flow.mem_looks (by kernel_rfl))).by_ 3 (by kernel_rfl) (by decide)
              rw [if_pos (Flow.wanted_by (t := 21) rfl (by kernel_rfl) r21)]
              refine Flow.step_value (v := sl g N c) ?_ ⟨Below.refl _ _, rfl⟩
              simp [execOp, Act.eval, r0, go_sem]
            | 6, ho =>
              have ho2 := Option.some.inj ho; clear ho; subst ho2
              have r9 : a.tmps.getD 9 undef = .int .i64 j := (hk 9 (Flow.mem_looks (by kernel_rfl))).before (by kernel_rfl)
              have r21 : a.tmps.getD 21 undef = .bool true := (hk 21 (Flow.mem_looks (by kernel_rfl))).by_ 3 (by kernel_rfl) (by decide)
              rw [if_pos (Flow.wanted_by (t := 21) rfl (by kernel_rfl) r21)]
              refine Flow.step_value (v := .int .i64 j) ?_ ⟨Below.refl _ _, rfl⟩
              simp [execOp, Act.eval, r9, go_sem]
            | 7, ho =>
              have ho2 := Option.some.inj ho; clear ho; subst ho2
              have r23 : a.tmps.getD 23 undef = sl g N c := (hk 23 (Flow.mem_looks (by kernel_rfl))).by_ 5 (by kernel_rfl) (by decide)
              have r24 : a.tmps.getD 24 undef = .int .i64 j := (hk 24 (Flow.mem_looks (by kernel_rfl))).by_ 6 (by kernel_rfl) (by decide)
              have r21 : a.tmps.getD 21 undef = .bool true := (hk 21 (Flow.mem_looks (by kernel_rfl))).by_ 3 (by kernel_rfl) (by decide)
              rw [if_pos (Flow.wanted_by (t := 21) rfl (by kernel_rfl) r21)]
              refine step_index (.tmp 23) (.tmp 24) rfl g N c (j) r23 r24 h1 ⟨Below.refl _ _, rfl⟩
            | 8, ho =>
              have ho2 := Option.some.inj ho; clear ho; subst ho2
              have r25 : a.tmps.getD 25 undef = .pointer (some ⟨g, (j) * 5, none⟩) := (hk 25 (Flow.mem_looks (by kernel_rfl))).by_ 7 (by kernel_rfl) (by decide)
              have r21 : a.tmps.getD 21 undef = .bool true := (hk 21 (Flow.mem_looks (by kernel_rfl))).by_ 3 (by kernel_rfl) (by decide)
              rw [if_pos (Flow.wanted_by (t := 21) rfl (by kernel_rfl) r21)]
              refine step_load_mid 24 (.tmp 25) rfl g (_ * 5) r25 y.cells _ (HY.out.below hw).range Try.underlying24 rfl (item_info y) ⟨Below.refl _ _, rfl⟩
            | 9, ho =>
              have ho2 := Option.some.inj ho; clear ho; subst ho2
              have r0 : a.tmps.getD 0 undef = sl g N c := (hk 0 (Flow.mem_looks (by kernel_rfl))).before (by kernel_rfl)
              have r21 : a.tmps.getD 21 undef = .bool true := (hk 21 (Flow.mem_looks (by kernel_rfl))).by_ 3 (by kernel_rfl) (by decide)
              rw [if_pos (Flow.wanted_by (t := 21) rfl (by kernel_rfl) r21)]
              refine Flow.step_value (v := sl g N c) ?_ ⟨Below.refl _ _, rfl⟩
              simp [execOp, Act.eval, r0, go_sem]
            | 10, ho =>
              have ho2 := Option.some.inj ho; clear ho; subst ho2
              have r9 : a.tmps.getD 9 undef = .int .i64 j := (hk 9 (Flow.mem_looks (by kernel_rfl))).before (by kernel_rfl)
              have r21 : a.tmps.getD 21 undef = .bool true := (hk 21 (Flow.mem_looks (by kernel_rfl))).by_ 3 (by kernel_rfl) (by decide)
              rw [if_pos (Flow.wanted_by (t := 21) rfl (by kernel_rfl) r21)]
              refine Flow.step_value (v := .int .i64 j) ?_ ⟨Below.refl _ _, rfl⟩
              simp [execOp, Act.eval, r9, go_sem]
            | 11, ho =>
              have ho2 := Option.some.inj ho; clear ho; subst ho2
              have r28 : a.tmps.getD 28 undef = .int .i64 j := (hk 28 (Flow.mem_looks (by kernel_rfl))).by_ 10 (by kernel_rfl) (by decide)
              have r21 : a.tmps.getD 21 undef = .bool true := (hk 21 (Flow.mem_looks (by kernel_rfl))).by_ 3 (by kernel_rfl) (by decide)
              rw [if_pos (Flow.wanted_by (t := 21) rfl (by kernel_rfl) r21)]
              refine step_sub (.tmp 28) (.const (.int .i64 1)) rfl j 1 (j - 1) r28 rfl rfl (by omega) (by omega) ⟨Below.refl _ _, rfl⟩
            | 12, ho =>
              have ho2 := Option.some.inj ho; clear ho; subst ho2
              have r27 : a.tmps.getD 27 undef = sl g N c := (hk 27 (Flow.mem_looks (by kernel_rfl))).by_ 9 (by kernel_rfl) (by decide)
              have r29 : a.tmps.getD 29 undef = .int .i64 (j - 1 : Nat) := (hk 29 (Flow.mem_looks (by kernel_rfl))).by_ 11 (by kernel_rfl) (by decide)
              have r21 : a.tmps.getD 21 undef = .bool true := (hk 21 (Flow.mem_looks (by kernel_rfl))).by_ 3 (by kernel_rfl) (by decide)
              rw [if_pos (Flow.wanted_by (t := 21) rfl (by kernel_rfl) r21)]
              refine step_index (.tmp 27) (.tmp 29) rfl g N c (j - 1) r27 r29 h2 ⟨Below.refl _ _, rfl⟩
            | 13, ho =>
              have ho2 := Option.some.inj ho; clear ho; subst ho2
              have r30 : a.tmps.getD 30 undef = .pointer (some ⟨g, (j - 1) * 5, none⟩) := (hk 30 (Flow.mem_looks (by kernel_rfl))).by_ 12 (by kernel_rfl) (by decide)
              have r21 : a.tmps.getD 21 undef = .bool true := (hk 21 (Flow.mem_looks (by kernel_rfl))).by_ 3 (by kernel_rfl) (by decide)
              rw [if_pos (Flow.wanted_by (t := 21) rfl (by kernel_rfl) r21)]
              refine step_load_mid 24 (.tmp 30) rfl g (_ * 5) r30 x.cells _ (HX.out.below hw).range Try.underlying24 rfl (item_info x) ⟨Below.refl _ _, rfl⟩
            | 14, ho =>
              have ho2 := Option.some.inj ho; clear ho; subst ho2
              have r22 : a.tmps.getD 22 undef = fcmp := (hk 22 (Flow.mem_looks (by kernel_rfl))).by_ 4 (by kernel_rfl) (by decide)
              have r26 : a.tmps.getD 26 undef = .agg y.cells.toArray := (hk 26 (Flow.mem_looks (by kernel_rfl))).by_ 8 (by kernel_rfl) (by decide)
              have r31 : a.tmps.getD 31 undef = .agg x.cells.toArray := (hk 31 (Flow.mem_looks (by kernel_rfl))).by_ 13 (by kernel_rfl) (by decide)
              have r21 : a.tmps.getD 21 undef = .bool true := (hk 21 (Flow.mem_looks (by kernel_rfl))).by_ 3 (by kernel_rfl) (by decide)
              rw [if_pos (Flow.wanted_by (t := 21) rfl (by kernel_rfl) r21)]
              refine Flow.step_call (f := 32) (args := #[.agg y.cells.toArray, .agg x.cells.toArray]) (by simp [execOp, Act.eval, r22, r26, r31, fcmp, go_sem]) ?_
              refine (cmp_any y x w).mono ?_
              rintro r w1 ⟨rfl, hb1⟩
              exact ⟨_, rfl, hb1, rfl⟩
            | 15, ho =>
              have ho2 := Option.some.inj ho; clear ho; subst ho2
              have r32 : a.tmps.getD 32 undef = .int .i64 (kc y x) := (hk 32 (Flow.mem_looks (by kernel_rfl))).by_ 14 (by kernel_rfl) (by decide)
              have r21 : a.tmps.getD 21 undef = .bool true := (hk 21 (Flow.mem_looks (by kernel_rfl))).by_ 3 (by kernel_rfl) (by decide)
              rw [if_pos (Flow.wanted_by (t := 21) rfl (by kernel_rfl) r21)]
              refine Flow.step_value (v := .bool z) ?_ ⟨Below.refl _ _, rfl⟩
              simp [execOp, Act.eval, r32, HZ.out, go_sem]
            | 16, ho =>
              have ho2 := Option.some.inj ho; clear ho; subst ho2
              have r21 : a.tmps.getD 21 undef = .bool true := (hk 21 (Flow.mem_looks (by kernel_rfl))).by_ 3 (by kernel_rfl) (by decide)
              have r33 : a.tmps.getD 33 undef = .bool z := (hk 33 (Flow.mem_looks (by kernel_rfl))).by_ 15 (by kernel_rfl) (by decide)
              rw [if_pos (Flow.wanted_free rfl _)]
              refine Flow.step_value (v := .bool z) ?_ ⟨Below.refl _ _, rfl⟩
              simp [execOp, Act.eval, r21, r33, go_sem]
            | _ + 17, ho => exact absurd ho (by simp)
          case fin =>
            intro a4 W5 hw4 hd4 hs4 hg hold
            have ea := Flow.act_eq (a := a4) [sl g N c, .int .i64 lo, .int .i64 up, fcmp, undef, undef, undef, undef, .int .i64 k, .int .i64 j, .int .i64 lo, .int .i64 (lo + 1), .int .i64 k, .int .i64 up, .bool true, u15, u16, .int .i64 k, a4.tmps.getD 18 undef, a4.tmps.getD 19 undef, a4.tmps.getD 20 undef, a4.tmps.getD 21 undef, a4.tmps.getD 22 undef, a4.tmps.getD 23 undef, a4.tmps.getD 24 undef, a4.tmps.getD 25 undef, a4.tmps.getD 26 undef, a4.tmps.getD 27 undef, a4.tmps.getD 28 undef, a4.tmps.getD 29 undef, a4.tmps.getD 30 undef, a4.tmps.getD 31 undef, a4.tmps.getD 32 undef, a4.tmps.getD 33 undef, .bool z, a4.tmps.getD 35 undef, a4.tmps.getD 36 undef, a4.tmps.getD 37 undef, a4.tmps.getD 38 undef, a4.tmps.getD 39 undef, a4.tmps.getD 40 undef, a4.tmps.getD 41 undef, a4.tmps.getD 42 undef, a4.tmps.getD 43 undef, a4.tmps.getD 44 undef, a4.tmps.getD 45 undef, a4.tmps.getD 46 undef, a4.tmps.getD 47 undef, a4.tmps.getD 48 undef, a4.tmps.getD 49 undef, a4.tmps.getD 50 undef, a4.tmps.getD 51 undef, a4.tmps.getD 52 undef] hs4 hd4 (by
              intro t ht
              match t, ht with
              | 0, _ => exact Flow.old_at hold 0 (by kernel_rfl)
              | 1, _ => exact Flow.old_at hold 1 (by kernel_rfl)
              | 2, _ => exact Flow.old_at hold 2 (by kernel_rfl)
              | 3, _ => exact Flow.old_at hold 3 (by kernel_rfl)
              | 4, _ => exact Flow.old_at hold 4 (by kernel_rfl)
              | 5, _ => exact Flow.old_at hold 5 (by kernel_rfl)
              | 6, _ => exact Flow.old_at hold 6 (by kernel_rfl)
              | 7, _ => exact Flow.old_at hold 7 (by kernel_rfl)
              | 8, _ => exact Flow.old_at hold 8 (by kernel_rfl)
              | 9, _ => exact Flow.old_at hold 9 (by kernel_rfl)
              | 10, _ => exact Flow.old_at hold 10 (by kernel_rfl)
              | 11, _ => exact Flow.old_at hold 11 (by kernel_rfl)
              | 12, _ => exact Flow.old_at hold 12 (by kernel_rfl)
              | 13, _ => exact Flow.old_at hold 13 (by kernel_rfl)
              | 14, _ => exact Flow.old_at hold 14 (by kernel_rfl)
              | 15, _ => exact Flow.old_at hold 15 (by kernel_rfl)
              | 16, _ => exact Flow.old_at hold 16 (by kernel_rfl)
              | 17, _ => exact Flow.old_at hold 17 (by kernel_rfl)
              | 18, _ => exact rfl
              | 19, _ => exact rfl
              | 20, _ => exact rfl
              | 21, _ => exact rfl
              | 22, _ => exact rfl
              | 23, _ => exact rfl
              | 24, _ => exact rfl
              | 25, _ => exact rfl
              | 26, _ => exact rfl
              | 27, _ => exact rfl
              | 28, _ => exact rfl
              | 29, _ => exact rfl
              | 30, _ => exact rfl
              | 31, _ => exact rfl
              | 32, _ => exact rfl
              | 33, _ => exact rfl
              | 34, _ => exact hg 16 _ 34 rfl rfl
              | 35, _ => exact rfl
              | 36, _ => exact rfl
              | 37, _ => exact rfl
              | 38, _ => exact rfl
              | 39, _ => exact rfl
              | 40, _ => exact rfl
              | 41, _ => exact rfl
              | 42, _ => exact rfl
              | 43, _ => exact rfl
              | 44, _ => exact rfl
              | 45, _ => exact rfl
              | 46, _ => exact rfl
              | 47, _ => exact rfl
              | 48, _ => exact rfl
              | 49, _ => exact rfl
              | 50, _ => exact rfl
              | 51, _ => exact rfl
              | 52, _ => exact rfl
              | t + 53, ht => exact absurd ht (by simp))
            rw [ea]
            generalize a4.tmps.getD 18 undef = z18
            generalize a4.tmps.getD 19 undef = z19
            generalize a4.tmps.getD 20 undef = z20
            generalize a4.tmps.getD 21 undef = z21
            generalize a4.tmps.getD 22 undef = z22
            generalize a4.tmps.getD 23 undef = z23
            generalize a4.tmps.getD 24 undef = z24
            generalize a4.tmps.getD 25 undef = z25
            generalize a4.tmps.getD 26 undef = z26
            generalize a4.tmps.getD 27 undef = z27
            generalize a4.tmps.getD 28 undef = z28
            generalize a4.tmps.getD 29 undef = z29
            generalize a4.tmps.getD 30 undef = z30
            generalize a4.tmps.getD 31 undef = z31
            generalize a4.tmps.getD 32 undef = z32
            generalize a4.tmps.getD 33 undef = z33
            generalize a4.tmps.getD 35 undef = z35
            generalize a4.tmps.getD 36 undef = z36
            generalize a4.tmps.getD 37 undef = z37
            generalize a4.tmps.getD 38 undef = z38
            generalize a4.tmps.getD 39 undef = z39
            generalize a4.tmps.getD 40 undef = z40
            generalize a4.tmps.getD 41 undef = z41
            generalize a4.tmps.getD 42 undef = z42
            generalize a4.tmps.getD 43 undef = z43
            generalize a4.tmps.getD 44 undef = z44
            generalize a4.tmps.getD 45 undef = z45
            generalize a4.tmps.getD 46 undef = z46
            generalize a4.tmps.getD 47 undef = z47
            generalize a4.tmps.getD 48 undef = z48
            generalize a4.tmps.getD 49 undef = z49
            generalize a4.tmps.getD 50 undef = z50
            generalize a4.tmps.getD 51 undef = z51
            generalize a4.tmps.getD 52 undef = z52
            clear ea
            have OW5 := Lib.hid (OW.out.below hw4)
            have GR5 := Lib.hid (grown_trans GR.out (below_grown' hw4 _))
            have HX := Lib.hid (HX.out.below hw4)
            have HY := Lib.hid (HY.out.below hw4)
            clear hd4 hs4 hg hold hw4
            refine (‹∀ (a : Act) (w : World), Code.wp _ _ _ a w → _›) _ _ ?_
            cases z with
            | false =>
              have SR := Lib.hid (ins_exit IN.out hj1 (.inr (by rw [← EX.out, ← EY.out]; exact of_decide_eq_false HZ.out)))
              go_wp2
              go_roundw
              case rel => exact ⟨k + 1, M, by go_num, by omega, by omega, OW5.out, GR5.out, TR.out, SR.out⟩
              case measure => simp [intOf]; omega
            | true =>
            have hzz := of_decide_eq_true HZ.out
            rw [EX.out, EY.out] at hzz
            have TR5 := Lib.hid (TR.out.trans (sw_tr hj (by omega) (by rw [ML.out]; exact h1) hzz))
            have IN5 := Lib.hid (ins_step IN.out hj hj2 (by rw [ML.out]; omega) hzz)
            clear hzz
            go_wp2_with fail
            refine Flow.wp_region_two (m := 17) (s := 15) (by kernel_rfl) [9, 13] (G39s g N c j x y) (fun w2 => OwnI w2 base (sl g N c) N (M.set j x) ∧ W5.grownBy w2 (some g)) (by kernel_rfl) rfl (by kernel_rfl) (G39s_pure g N c j x y) ?loc ?locS ?fin
            case loc =>
              intro i o hi ho hne a w hL hk
              match i, hi, ho with
              | 0, _, ho =>
                have ho2 := Option.some.inj ho; clear ho; subst ho2
                have r0 : a.tmps.getD 0 undef = sl g N c := (hk 0 (Flow.mem_looks (by kernel_rfl))).before (by kernel_rfl)
                rw [if_pos (Flow.wanted_free rfl _)]
                refine Flow.step_value (v := sl g N c) ?_ ⟨rfl, rfl⟩
                simp [execOp, Act.eval, r0, go_sem]
              | 1, _, ho =>
                have ho2 := Option.some.inj ho; clear ho; subst ho2
                have r9 : a.tmps.getD 9 undef = .int .i64 j := (hk 9 (Flow.mem_looks (by kernel_rfl))).before (by kernel_rfl)
                rw [if_pos (Flow.wanted_free rfl _)]
                refine Flow.step_value (v := .int .i64 j) ?_ ⟨rfl, rfl⟩
                simp [execOp, Act.eval, r9, go_sem]
              | 2, _, ho =>
                have ho2 := Option.some.inj ho; clear ho; subst ho2
                have r0 : a.tmps.getD 0 undef = sl g N c := (hk 0 (Flow.mem_looks (by kernel_rfl))).before (by kernel_rfl)
                rw [if_pos (Flow.wanted_free rfl _)]
                refine Flow.step_value (v := sl g N c) ?_ ⟨rfl, rfl⟩
                simp [execOp, Act.eval, r0, go_sem]
              | 3, _, ho =>
                have ho2 := Option.some.inj ho; clear ho; subst ho2
                have r9 : a.tmps.getD 9 undef = .int .i64 j := (hk 9 (Flow.mem_looks (by kernel_rfl))).before (by kernel_rfl)
                rw [if_pos (Flow.wanted_free rfl _)]
                refine Flow.step_value (v := .int .i64 j) ?_ ⟨rfl, rfl⟩
                simp [execOp, Act.eval, r9, go_sem]
              | 4, _, ho =>
                have ho2 := Option.some.inj ho; clear ho; subst ho2
                have r40 : a.tmps.getD 40 undef = .int .i64 j := (hk 40 (Flow.mem_looks (by kernel_rfl))).by_ 3 (by kernel_rfl) (by decide)
                rw [if_pos (Flow.wanted_free rfl _)]
                refine step_sub (.tmp 40) (.const (.int .i64 1)) rfl j 1 (j - 1) r40 rfl rfl (by omega) (by omega) ⟨rfl, rfl⟩
              | 5, _, ho =>
                have ho2 := Option.some.inj ho; clear ho; subst ho2
                have r0 : a.tmps.getD 0 undef = sl g N c := (hk 0 (Flow.mem_looks (by kernel_rfl))).before (by kernel_rfl)
                rw [if_pos (Flow.wanted_free rfl _)]
                refine Flow.step_value (v := sl g N c) ?_ ⟨rfl, rfl⟩
                simp [execOp, Act.eval, r0, go_sem]
              | 6, _, ho =>
                have ho2 := Option.some.inj ho; clear ho; subst ho2
                have r9 : a.tmps.getD 9 undef = .int .i64 j := (hk 9 (Flow.mem_looks (by kernel_rfl))).before (by kernel_rfl)
                rw [if_pos (Flow.wanted_free rfl _)]
                refine Flow.step_value (v := .int .i64 j) ?_ ⟨rfl, rfl⟩
                simp [execOp, Act.eval, r9, go_sem]
              | 7, _, ho =>
                have ho2 := Option.some.inj ho; clear ho; subst ho2
                have r43 : a.tmps.getD 43 undef = .int .i64 j := (hk 43 (Flow.mem_looks (by kernel_rfl))).by_ 6 (by kernel_rfl) (by decide)
                rw [if_pos (Flow.wanted_free rfl _)]
                refine step_sub (.tmp 43) (.const (.int .i64 1)) rfl j 1 (j - 1) r43 rfl rfl (by omega) (by omega) ⟨rfl, rfl⟩
              | 8, _, ho =>
                have ho2 := Option.some.inj ho; clear ho; subst ho2
                have r42 : a.tmps.getD 42 undef = sl g N c := (hk 42 (Flow.mem_looks (by kernel_rfl))).by_ 5 (by kernel_rfl) (by decide)
                have r44 : a.tmps.getD 44 undef = .int .i64 (j - 1 : Nat) := (hk 44 (Flow.mem_looks (by kernel_rfl))).by_ 7 (by kernel_rfl) (by decide)
                rw [if_pos (Flow.wanted_free rfl _)]
                refine step_index (.tmp 42) (.tmp 44) rfl g N c (j - 1) r42 r44 h2 ⟨rfl, rfl⟩
              | 9, _, ho =>
                obtain rfl := hL (by decide)
                have ho2 := Option.some.inj ho; clear ho; subst ho2
                have r45 : a.tmps.getD 45 undef = .pointer (some ⟨g, (j - 1) * 5, none⟩) := (hk 45 (Flow.mem_looks (by kernel_rfl))).by_ 8 (by kernel_rfl) (by decide)
                rw [if_pos (Flow.wanted_free rfl _)]
                refine step_load_mid 24 (.tmp 45) rfl g (_ * 5) r45 x.cells _ (HX.out.range) Try.underlying24 rfl (item_info x) ⟨rfl, rfl⟩
              | 10, _, ho =>
                have ho2 := Option.some.inj ho; clear ho; subst ho2
                have r0 : a.tmps.getD 0 undef = sl g N c := (hk 0 (Flow.mem_looks (by kernel_rfl))).before (by kernel_rfl)
                rw [if_pos (Flow.wanted_free rfl _)]
                refine Flow.step_value (v := sl g N c) ?_ ⟨rfl, rfl⟩
                simp [execOp, Act.eval, r0, go_sem]
              | 11, _, ho =>
                have ho2 := Option.some.inj ho; clear ho; subst ho2
                have r9 : a.tmps.getD 9 undef = .int .i64 j := (hk 9 (Flow.mem_looks (by kernel_rfl))).before (by kernel_rfl)
                rw [if_pos (Flow.wanted_free rfl _)]
                refine Flow.step_value (v := .int .i64 j) ?_ ⟨rfl, rfl⟩
                simp [execOp, Act.eval, r9, go_sem]
              | 12, _, ho =>
                have ho2 := Option.some.inj ho; clear ho; subst ho2
                have r47 : a.tmps.getD 47 undef = sl g N c := (hk 47 (Flow.mem_looks (by kernel_rfl))).by_ 10 (by kernel_rfl) (by decide)
                have r48 : a.tmps.getD 48 undef = .int .i64 j := (hk 48 (Flow.mem_looks (by kernel_rfl))).by_ 11 (by kernel_rfl) (by decide)
                rw [if_pos (Flow.wanted_free rfl _)]
                refine step_index (.tmp 47) (.tmp 48) rfl g N c (j) r47 r48 h1 ⟨rfl, rfl⟩
              | 13, _, ho =>
                obtain rfl := hL (by decide)
                have ho2 := Option.some.inj ho; clear ho; subst ho2
                have r49 : a.tmps.getD 49 undef = .pointer (some ⟨g, (j) * 5, none⟩) := (hk 49 (Flow.mem_looks (by kernel_rfl))).by_ 12 (by kernel_rfl) (by decide)
                rw [if_pos (Flow.wanted_free rfl _)]
                refine step_load_mid 24 (.tmp 49) rfl g (_ * 5) r49 y.cells _ (HY.out.range) Try.underlying24 rfl (item_info y) ⟨rfl, rfl⟩
              | 14, _, ho =>
                have ho2 := Option.some.inj ho; clear ho; subst ho2
                have r37 : a.tmps.getD 37 undef = sl g N c := (hk 37 (Flow.mem_looks (by kernel_rfl))).by_ 0 (by kernel_rfl) (by decide)
                have r38 : a.tmps.getD 38 undef = .int .i64 j := (hk 38 (Flow.mem_looks (by kernel_rfl))).by_ 1 (by kernel_rfl) (by decide)
                rw [if_pos (Flow.wanted_free rfl _)]
                refine step_index (.tmp 37) (.tmp 38) rfl g N c (j) r37 r38 h1 ⟨rfl, rfl⟩
              | 15, _, _ => exact absurd rfl hne
              | 16, _, ho =>
                have ho2 := Option.some.inj ho; clear ho; subst ho2
                have r39 : a.tmps.getD 39 undef = sl g N c := (hk 39 (Flow.mem_looks (by kernel_rfl))).by_ 2 (by kernel_rfl) (by decide)
                have r41 : a.tmps.getD 41 undef = .int .i64 (j - 1 : Nat) := (hk 41 (Flow.mem_looks (by kernel_rfl))).by_ 4 (by kernel_rfl) (by decide)
                rw [if_pos (Flow.wanted_free rfl _)]
                refine step_index (.tmp 39) (.tmp 41) rfl g N c (j - 1) r39 r41 h2 ⟨rfl, rfl⟩
              | _ + 17, hi, _ => exact absurd hi (by omega)
            case locS =>
              intro o ho a hsz hk
              have ho2 := Option.some.inj ho; clear ho; subst ho2
              refine ⟨rfl, rfl, ?_⟩
              have r46 : a.tmps.getD 46 undef = .agg x.cells.toArray := (hk 46 (Flow.mem_looks (by kernel_rfl))).by_ 9 (by kernel_rfl) (by decide)
              have r51 : a.tmps.getD 51 undef = .pointer (some ⟨g, (j) * 5, none⟩) := (hk 51 (Flow.mem_looks (by kernel_rfl))).by_ 14 (by kernel_rfl) (by decide)
              refine step_store_mid 24 (.tmp 51) (.tmp 46) rfl g _ x.cells.toArray r51 r46 (OW5.out.there h1) (item_info x) (all_oneCell_toArray (item_one x)) ?_
              exact fun _ => ⟨OwnI.put (OwnI.drawn OW5.out) h1 x, grown_trans (drawn_grown _ _) (grown_setCells _ _ _ _)⟩
            case fin =>
              intro a5 w5 hK hd4 hs4 hg hold
              have ea := Flow.act_eq (a := a5) [sl g N c, .int .i64 lo, .int .i64 up, fcmp, undef, undef, undef, undef, .int .i64 k, .int .i64 j, .int .i64 lo, .int .i64 (lo + 1), .int .i64 k, .int .i64 up, .bool true, u15, u16, .int .i64 k, a5.tmps.getD 18 undef, a5.tmps.getD 19 undef, a5.tmps.getD 20 undef, a5.tmps.getD 21 undef, a5.tmps.getD 22 undef, a5.tmps.getD 23 undef, a5.tmps.getD 24 undef, a5.tmps.getD 25 undef, a5.tmps.getD 26 undef, a5.tmps.getD 27 undef, a5.tmps.getD 28 undef, a5.tmps.getD 29 undef, a5.tmps.getD 30 undef, a5.tmps.getD 31 undef, a5.tmps.getD 32 undef, a5.tmps.getD 33 undef, a5.tmps.getD 34 undef, a5.tmps.getD 35 undef, a5.tmps.getD 36 undef, a5.tmps.getD 37 undef, a5.tmps.getD 38 undef, a5.tmps.getD 39 undef, a5.tmps.getD 40 undef, a5.tmps.getD 41 undef, a5.tmps.getD 42 undef, a5.tmps.getD 43 undef, a5.tmps.getD 44 undef, a5.tmps.getD 45 undef, a5.tmps.getD 46 undef, a5.tmps.getD 47 undef, a5.tmps.getD 48 undef, a5.tmps.getD 49 undef, .agg y.cells.toArray, a5.tmps.getD 51 undef, .pointer (some ⟨g, (j - 1) * 5, none⟩)] hs4 hd4 (by
                intro t ht
                match t, ht with
                | 0, _ => exact Flow.old_at hold 0 (by kernel_rfl)
                | 1, _ => exact Flow.old_at hold 1 (by kernel_rfl)
                | 2, _ => exact Flow.old_at hold 2 (by kernel_rfl)
                | 3, _ => exact Flow.old_at hold 3 (by kernel_rfl)
                | 4, _ => exact Flow.old_at hold 4 (by kernel_rfl)
                | 5, _ => exact Flow.old_at hold 5 (by kernel_rfl)
                | 6, _ => exact Flow.old_at hold 6 (by kernel_rfl)
                | 7, _ => exact Flow.old_at hold 7 (by kernel_rfl)
                | 8, _ => exact Flow.old_at hold 8 (by kernel_rfl)
                | 9, _ => exact Flow.old_at hold 9 (by kernel_rfl)
                | 10, _ => exact Flow.old_at hold 10 (by kernel_rfl)
                | 11, _ => exact Flow.old_at hold 11 (by kernel_rfl)
                | 12, _ => exact Flow.old_at hold 12 (by kernel_rfl)
                | 13, _ => exact Flow.old_at hold 13 (by kernel_rfl)
                | 14, _ => exact Flow.old_at hold 14 (by kernel_rfl)
                | 15, _ => exact Flow.old_at hold 15 (by kernel_rfl)
                | 16, _ => exact Flow.old_at hold 16 (by kernel_rfl)
                | 17, _ => exact Flow.old_at hold 17 (by kernel_rfl)
                | 18, _ => exact rfl
                | 19, _ => exact rfl
                | 20, _ => exact rfl
                | 21, _ => exact rfl
                | 22, _ => exact rfl
                | 23, _ => exact rfl
                | 24, _ => exact rfl
                | 25, _ => exact rfl
                | 26, _ => exact rfl
                | 27, _ => exact rfl
                | 28, _ => exact rfl
                | 29, _ => exact rfl
                | 30, _ => exact rfl
                | 31, _ => exact rfl
                | 32, _ => exact rfl
                | 33, _ => exact rfl
                | 34, _ => exact rfl
                | 35, _ => exact rfl
                | 36, _ => exact rfl
                | 37, _ => exact rfl
                | 38, _ => exact rfl
                | 39, _ => exact rfl
                | 40, _ => exact rfl
                | 41, _ => exact rfl
                | 42, _ => exact rfl
                | 43, _ => exact rfl
                | 44, _ => exact rfl
                | 45, _ => exact rfl
                | 46, _ => exact rfl
                | 47, _ => exact rfl
                | 48, _ => exact rfl
                | 49, _ => exact rfl
                | 50, _ => exact hg 13 _ 50 (by decide) rfl rfl
                | 51, _ => exact rfl
                | 52, _ => exact hg 16 _ 52 (by decide) rfl rfl
                | t + 53, ht => exact absurd ht (by simp))
              rw [ea]
              generalize a5.tmps.getD 18 undef = z18
              generalize a5.tmps.getD 19 undef = z19
              generalize a5.tmps.getD 20 undef = z20
              generalize a5.tmps.getD 21 undef = z21
              generalize a5.tmps.getD 22 undef = z22
              generalize a5.tmps.getD 23 undef = z23
              generalize a5.tmps.getD 24 undef = z24
              generalize a5.tmps.getD 25 undef = z25
              generalize a5.tmps.getD 26 undef = z26
              generalize a5.tmps.getD 27 undef = z27
              generalize a5.tmps.getD 28 undef = z28
              generalize a5.tmps.getD 29 undef = z29
              generalize a5.tmps.getD 30 undef = z30
              generalize a5.tmps.getD 31 undef = z31
              generalize a5.tmps.getD 32 undef = z32
              generalize a5.tmps.getD 33 undef = z33
              generalize a5.tmps.getD 34 undef = z34
              generalize a5.tmps.getD 35 undef = z35
              generalize a5.tmps.getD 36 undef = z36
              generalize a5.tmps.getD 37 undef = z37
              generalize a5.tmps.getD 38 undef = z38
              generalize a5.tmps.getD 39 undef = z39
              generalize a5.tmps.getD 40 undef = z40
              generalize a5.tmps.getD 41 undef = z41
              generalize a5.tmps.getD 42 undef = z42
              generalize a5.tmps.getD 43 undef = z43
              generalize a5.tmps.getD 44 undef = z44
              generalize a5.tmps.getD 45 undef = z45
              generalize a5.tmps.getD 46 undef = z46
              generalize a5.tmps.getD 47 undef = z47
              generalize a5.tmps.getD 48 undef = z48
              generalize a5.tmps.getD 49 undef = z49
              generalize a5.tmps.getD 51 undef = z51
              clear ea
              have OW6 := Lib.hid hK.1
              have GR6 := Lib.hid hK.2
              clear hd4 hs4 hg hold hK
              refine wpList_store_mid rfl 24 (.tmp 52) (.tmp 50) rfl g ((j - 1) * 5) y.cells.toArray rfl rfl (OW6.out.there h2) (item_info y) (all_oneCell_toArray (item_one y)) ?_
              obtain ⟨W7, hW7⟩ : ∃ W, W = w5.setCells g ((j - 1) * 5) y.cells := ⟨_, rfl⟩
              show wpList _ _ _ _ _ (w5.setCells g ((j - 1) * 5) y.cells)
              rw [← hW7]
              have OW7 := Lib.hid (show OwnI W7 base (sl g N c) N (sw M j (j - 1)) by rw [hW7, sw, ← EX.out, ← EY.out]; exact OW6.out.put h2 y)
              have GR7 := Lib.hid (show w.grownBy W7 (some g) by rw [hW7]; exact grown_trans GR5.out (grown_trans GR6.out (grown_setCells _ _ _ _)))
              clear hW7
              go_wp2
              go_roundw
              case rel => exact ⟨j - 1, _, by go_num, by omega, by omega, OW7.out, GR7.out, TR5.out, IN5.out⟩
              case measure => simp [intOf]; omega
        · have hgt : decide ((lo : Int) < j) = false := decide_eq_false (by omega)
          obtain ⟨x, hx⟩ : ∃ x, x = it0 := ⟨_, rfl⟩
          obtain ⟨y, hy⟩ : ∃ y, y = it0 := ⟨_, rfl⟩
          obtain ⟨z, hz⟩ : ∃ z, z = true := ⟨_, rfl⟩
          clear hx hy hz
          go_wp2_with fail
          refine Flow.wp_region_flow (by kernel_rfl) (G39f g N c lo j x y z) (by kernel_rfl) (G39f_stable g N c lo j x y z) ?loc ?fin
          case loc =>
            intro i o ho a w hw hk
            match i, ho with
            | 0, ho =>
              have ho2 := Option.some.inj ho; clear ho; subst ho2
              have r9 : a.tmps.getD 9 undef = .int .i64 j := (hk 9 (Flow.mem_looks (by kernel_rfl))).before (by kernel_rfl)
              rw [if_pos (Flow.wanted_free rfl _)]
              refine Flow.step_value (v := .int .i64 j) ?_ ⟨Below.refl _ _, rfl⟩
              simp [execOp, Act.eval, r9, go_sem]
            | 1, ho =>
              have ho2 := Option.some.inj ho; clear ho; subst ho2
              have r1 : a.tmps.getD 1 undef = .int .i64 lo := (hk 1 (Flow.mem_looks (by kernel_rfl))).before (by kernel_rfl)
              rw [if_pos (Flow.wanted_free rfl _)]
              refine Flow.step_value (v := .int .i64 lo) ?_ ⟨Below.refl _ _, rfl⟩
              simp [execOp, Act.eval, r1, go_sem]
            | 2, ho =>
              have ho2 := Option.some.inj ho; clear ho; subst ho2
              have r18 : a.tmps.getD 18 undef = .int .i64 j := (hk 18 (Flow.mem_looks (by kernel_rfl))).by_ 0 (by kernel_rfl) (by decide)
              have r19 : a.tmps.getD 19 undef = .int .i64 lo := (hk 19 (Flow.mem_looks (by kernel_rfl))).by_ 1 (by kernel_rfl) (by decide)
              rw [if_pos (Flow.wanted_free rfl _)]
              refine Flow.step_value (v := .bool false) ?_ ⟨Below.refl _ _, rfl⟩
              simp [execOp, Act.eval, r18, r19, go_sem]
              omega
            | 3, ho =>
              have ho2 := Option.some.inj ho; clear ho; subst ho2
              have r20 : a.tmps.getD 20 undef = .bool false := (hk 20 (Flow.mem_looks (by kernel_rfl))).by_ 2 (by kernel_rfl) (by decide)
              rw [if_pos (Flow.wanted_free rfl _)]
              refine Flow.step_value (v := .bool false) ?_ ⟨Below.refl _ _, rfl⟩
              simp [execOp, Act.eval, r20, go_sem]
            | 4, ho =>
              have ho2 := Option.some.inj ho; clear ho; subst ho2
              have r3 : a.tmps.getD 3 undef = fcmp := (hk 3 (Flow.mem_looks (by kernel_rfl))).before (by kernel_rfl)
              have r21 : a.tmps.getD 21 undef = .bool false := (hk 21 (Flow.mem_looks (by kernel_rfl))).by_ 3 (by kernel_rfl) (by decide)
              rw [if_neg (by rw [Flow.unwanted_by rfl (t := 21) (by kernel_rfl) r21]; decide)]
              exact rfl
            | 5, ho =>
              have ho2 := Option.some.inj ho; clear ho; subst ho2
              have r0 : a.tmps.getD 0 undef = sl g N c := (hk 0 (Flow.mem_looks (by kernel_rfl))).before (by kernel_rfl)
              have r21 : a.tmps.getD 21 undef = .bool false := (hk 21 (Flow.mem_looks (by kernel_rfl))).by_ 3 (by kernel_rfl) (by decide)
              rw [if_neg (by rw [Flow.unwanted_by rfl (t := 21) (by kernel_rfl) r21]; decide)]
              exact rfl
            | 6, ho =>
              have ho2 := Option.some.inj ho; clear ho; subst ho2
              have r9 : a.tmps.getD 9 undef = .int .i64 j := (hk 9 (Flow.mem_looks (by kernel_rfl))).before (by kernel_rfl)
              have r21 : a.tmps.getD 21 undef = .bool false := (hk 21 (Flow.mem_looks (by kernel_rfl))).by_ 3 (by kernel_rfl) (by decide)
              rw [if_neg (by rw [Flow.unwanted_by rfl (t := 21) (by kernel_rfl) r21]; decide)]
              exact rfl
            | 7, ho =>
              have ho2 := Option.some.inj ho; clear ho; subst ho2
              have r23 : a.tmps.getD 23 undef = undef := (hk 23 (Flow.mem_looks (by kernel_rfl))).by_ 5 (by kernel_rfl) (by decide)
              have r24 : a.tmps.getD 24 undef = undef := (hk 24 (Flow.mem_looks (by kernel_rfl))).by_ 6 (by kernel_rfl) (by decide)
              have r21 : a.tmps.getD 21 undef = .bool false := (hk 21 (Flow.mem_looks (by kernel_rfl))).by_ 3 (by kernel_rfl) (by decide)
              rw [if_neg (by rw [Flow.unwanted_by rfl (t := 21) (by kernel_rfl) r21]; decide)]
              exact rfl
            | 8, ho =>
              have ho2 := Option.some.inj ho; clear ho; subst ho2
              have r25 : a.tmps.getD 25 undef = undef := (hk 25 (Flow.mem_looks (by kernel_rfl))).by_ 7 (by kernel_rfl) (by decide)
              have r21 : a.tmps.getD 21 undef = .bool false := (hk 21 (Flow.mem_looks (by kernel_rfl))).by_ 3 (by kernel_rfl) (by decide)
              rw [if_neg (by rw [Flow.unwanted_by rfl (t := 21) (by kernel_rfl) r21]; decide)]
              exact rfl
            | 9, ho =>
              have ho2 := Option.some.inj ho; clear ho; subst ho2
              have r0 : a.tmps.getD 0 undef = sl g N c := (hk 0 (Flow.mem_looks (by kernel_rfl))).before (by kernel_rfl)
              have r21 : a.tmps.getD 21 undef = .bool false := (hk 21 (Flow.mem_looks (by kernel_rfl))).by_ 3 (by kernel_rfl) (by decide)
              rw [if_neg (by rw [Flow.unwanted_by rfl (t := 21) (by kernel_rfl) r21]; decide)]
              exact rfl
            | 10, ho =>
              have ho2 := Option.some.inj ho; clear ho; subst ho2
              have r9 : a.tmps.getD 9 undef = .int .i64 j := (hk 9 (Flow.mem_looks (by kernel_rfl))).before (by kernel_rfl)
              have r21 : a.tmps.getD 21 undef = .bool false := (hk 21 (Flow.mem_looks (by kernel_rfl))).by_ 3 (by kernel_rfl) (by decide)
              rw [if_neg (by rw [Flow.unwanted_by rfl (t := 21) (by kernel_rfl) r21]; decide)]
              exact rfl
            | 11, ho =>
              have ho2 := Option.some.inj ho; clear ho; subst ho2
              have r28 : a.tmps.getD 28 undef = undef := (hk 28 (Flow.mem_looks (by kernel_rfl))).by_ 10 (by kernel_rfl) (by decide)
              have r21 : a.tmps.getD 21 undef = .bool false := (hk 21 (Flow.mem_looks (by kernel_rfl))).by_ 3 (by kernel_rfl) (by decide)
              rw [if_neg (by rw [Flow.unwanted_by rfl (t := 21) (by kernel_rfl) r21]; decide)]
              exact rfl
            | 12, ho =>
              have ho2 := Option.some.inj ho; clear ho; subst ho2
              have r27 : a.tmps.getD 27 undef = undef := (hk 27 (Flow.mem_looks (by kernel_rfl))).by_ 9 (by kernel_rfl) (by decide)
              have r29 : a.tmps.getD 29 undef = undef := (hk 29 (Flow.mem_looks (by kernel_rfl))).by_ 11 (by kernel_rfl) (by decide)
              have r21 : a.tmps.getD 21 undef = .bool false := (hk 21 (Flow.mem_looks (by kernel_rfl))).by_ 3 (by kernel_rfl) (by decide)
              rw [if_neg (by rw [Flow.unwanted_by rfl (t := 21) (by kernel_rfl) r21]; decide)]
              exact rfl
            | 13, ho =>
              have ho2 := Option.some.inj ho; clear ho; subst ho2
              have r30 : a.tmps.getD 30 undef = undef := (hk 30 (Flow.mem_looks (by kernel_rfl))).by_ 12 (by kernel_rfl) (by decide)
              have r21 : a.tmps.getD 21 undef = .bool false := (hk 21 (Flow.mem_looks (by kernel_rfl))).by_ 3 (by kernel_rfl) (by decide)
              rw [if_neg (by rw [Flow.unwanted_by rfl (t := 21) (by kernel_rfl) r21]; decide)]
              exact rfl
            | 14, ho =>
              have ho2 := Option.some.inj ho; clear ho; subst ho2
              have r22 : a.tmps.getD 22 undef = undef := (hk 22 (Flow.mem_looks (by kernel_rfl))).by_ 4 (by kernel_rfl) (by decide)
              have r26 : a.tmps.getD 26 undef = undef := (hk 26 (Flow.mem_looks (by kernel_rfl))).by_ 8 (by kernel_rfl) (by decide)
              have r31 : a.tmps.getD 31 undef = undef := (hk 31 (Flow.mem_looks (by kernel_rfl))).by_ 13 (by kernel_rfl) (by decide)
              have r21 : a.tmps.getD 21 undef = .bool false := (hk 21 (Flow.mem_looks (by kernel_rfl))).by_ 3 (by kernel_rfl) (by decide)
              rw [if_neg (by rw [Flow.unwanted_by rfl (t := 21) (by kernel_rfl) r21]; decide)]
              exact rfl
            | 15, ho =>
              have ho2 := Option.some.inj ho; clear ho; subst ho2
              have r32 : a.tmps.getD 32 undef = undef := (hk 32 (Flow.mem_looks (by kernel_rfl))).by_ 14 (by kernel_rfl) (by decide)
              have r21 : a.tmps.getD 21 undef = .bool false := (hk 21 (Flow.mem_looks (by kernel_rfl))).by_ 3 (by kernel_rfl) (by decide)
              rw [if_neg (by rw [Flow.unwanted_by rfl (t := 21) (by kernel_rfl) r21]; decide)]
              exact rfl
            | 16, ho =>
              have ho2 := Option.some.inj ho; clear ho; subst ho2
              have r21 : a.tmps.getD 21 undef = .bool false := (hk 21 (Flow.mem_looks (by kernel_rfl))).by_ 3 (by kernel_rfl) (by decide)
              have r33 : a.tmps.getD 33 undef = undef := (hk 33 (Flow.mem_looks (by kernel_rfl))).by_ 15 (by kernel_rfl) (by decide)
              rw [if_pos (Flow.wanted_free rfl _)]
              refine Flow.step_value (v := .bool false) ?_ ⟨Below.refl _ _, rfl⟩
              simp [execOp, Act.eval, r21, r33, go_sem]
            | _ + 17, ho => exact absurd ho (by simp)
          case fin =>
            intro a4 W5 hw4 hd4 hs4 hg hold
            have ea := Flow.act_eq (a := a4) [sl g N c, .int .i64 lo, .int .i64 up, fcmp, undef, undef, undef, undef, .int .i64 k, .int .i64 j, .int .i64 lo, .int .i64 (lo + 1), .int .i64 k, .int .i64 up, .bool true, u15, u16, .int .i64 k, a4.tmps.getD 18 undef, a4.tmps.getD 19 undef, a4.tmps.getD 20 undef, a4.tmps.getD 21 undef, a4.tmps.getD 22 undef, a4.tmps.getD 23 undef, a4.tmps.getD 24 undef, a4.tmps.getD 25 undef, a4.tmps.getD 26 undef, a4.tmps.getD 27 undef, a4.tmps.getD 28 undef, a4.tmps.getD 29 undef, a4.tmps.getD 30 undef, a4.tmps.getD 31 undef, a4.tmps.getD 32 undef, a4.tmps.getD 33 undef, .bool false, a4.tmps.getD 35 undef, a4.tmps.getD 36 undef, a4.tmps.getD 37 undef, a4.tmps.getD 38 undef, a4.tmps.getD 39 undef, a4.tmps.getD 40 undef, a4.tmps.getD 41 undef, a4.tmps.getD 42 undef, a4.tmps.getD 43 undef, a4.tmps.getD 44 undef, a4.tmps.getD 45 undef, a4.tmps.getD 46 undef, a4.tmps.getD 47 undef, a4.tmps.getD 48 undef, a4.tmps.getD 49 undef, a4.tmps.getD 50 undef, a4.tmps.getD 51 undef, a4.tmps.getD 52 undef] hs4 hd4 (by
              intro t ht
              match t, ht with
              | 0, _ => exact Flow.old_at hold 0 (by kernel_rfl)
              | 1, _ => exact Flow.old_at hold 1 (by kernel_rfl)
              | 2, _ => exact Flow.old_at hold 2 (by kernel_rfl)
              | 3, _ => exact Flow.old_at hold 3 (by kernel_rfl)
              | 4, _ => exact Flow.old_at hold 4 (by kernel_rfl)
              | 5, _ => exact Flow.old_at hold 5 (by kernel_rfl)
              | 6, _ => exact Flow.old_at hold 6 (by kernel_rfl)
              | 7, _ => exact Flow.old_at hold 7 (by kernel_rfl)
              | 8, _ => exact Flow.old_at hold 8 (by kernel_rfl)
              | 9, _ => exact Flow.old_at hold 9 (by kernel_rfl)
              | 10, _ => exact Flow.old_at hold 10 (by kernel_rfl)
              | 11, _ => exact Flow.old_at hold 11 (by kernel_rfl)
              | 12, _ => exact Flow.old_at hold 12 (by kernel_rfl)
              | 13, _ => exact Flow.old_at hold 13 (by kernel_rfl)
              | 14, _ => exact Flow.old_at hold 14 (by kernel_rfl)
              | 15, _ => exact Flow.old_at hold 15 (by kernel_rfl)
              | 16, _ => exact Flow.old_at hold 16 (by kernel_rfl)
              | 17, _ => exact Flow.old_at hold 17 (by kernel_rfl)
              | 18, _ => exact rfl
              | 19, _ => exact rfl
              | 20, _ => exact rfl
              | 21, _ => exact rfl
              | 22, _ => exact rfl
              | 23, _ => exact rfl
              | 24, _ => exact rfl
              | 25, _ => exact rfl
              | 26, _ => exact rfl
              | 27, _ => exact rfl
              | 28, _ => exact rfl
              | 29, _ => exact rfl
              | 30, _ => exact rfl
              | 31, _ => exact rfl
              | 32, _ => exact rfl
              | 33, _ => exact rfl
              | 34, _ => exact hg 16 _ 34 rfl rfl
              | 35, _ => exact rfl
              | 36, _ => exact rfl
              | 37, _ => exact rfl
              | 38, _ => exact rfl
              | 39, _ => exact rfl
              | 40, _ => exact rfl
              | 41, _ => exact rfl
              | 42, _ => exact rfl
              | 43, _ => exact rfl
              | 44, _ => exact rfl
              | 45, _ => exact rfl
              | 46, _ => exact rfl
              | 47, _ => exact rfl
              | 48, _ => exact rfl
              | 49, _ => exact rfl
              | 50, _ => exact rfl
              | 51, _ => exact rfl
              | 52, _ => exact rfl
              | t + 53, ht => exact absurd ht (by simp))
            rw [ea]
            generalize a4.tmps.getD 18 undef = z18
            generalize a4.tmps.getD 19 undef = z19
            generalize a4.tmps.getD 20 undef = z20
            generalize a4.tmps.getD 21 undef = z21
            generalize a4.tmps.getD 22 undef = z22
            generalize a4.tmps.getD 23 undef = z23
            generalize a4.tmps.getD 24 undef = z24
            generalize a4.tmps.getD 25 undef = z25
            generalize a4.tmps.getD 26 undef = z26
            generalize a4.tmps.getD 27 undef = z27
            generalize a4.tmps.getD 28 undef = z28
            generalize a4.tmps.getD 29 undef = z29
            generalize a4.tmps.getD 30 undef = z30
            generalize a4.tmps.getD 31 undef = z31
            generalize a4.tmps.getD 32 undef = z32
            generalize a4.tmps.getD 33 undef = z33
            generalize a4.tmps.getD 35 undef = z35
            generalize a4.tmps.getD 36 undef = z36
            generalize a4.tmps.getD 37 undef = z37
            generalize a4.tmps.getD 38 undef = z38
            generalize a4.tmps.getD 39 undef = z39
            generalize a4.tmps.getD 40 undef = z40
            generalize a4.tmps.getD 41 undef = z41
            generalize a4.tmps.getD 42 undef = z42
            generalize a4.tmps.getD 43 undef = z43
            generalize a4.tmps.getD 44 undef = z44
            generalize a4.tmps.getD 45 undef = z45
            generalize a4.tmps.getD 46 undef = z46
            generalize a4.tmps.getD 47 undef = z47
            generalize a4.tmps.getD 48 undef = z48
            generalize a4.tmps.getD 49 undef = z49
            generalize a4.tmps.getD 50 undef = z50
            generalize a4.tmps.getD 51 undef = z51
            generalize a4.tmps.getD 52 undef = z52
            clear ea
            have OW5 := Lib.hid (OW.out.below hw4)
            have GR5 := Lib.hid (grown_trans GR.out (below_grown' hw4 _))
            have SR := Lib.hid (ins_exit IN.out hj1 (.inl (by omega)))
            clear hd4 hs4 hg hold hw4
            refine (‹∀ (a : Act) (w : World), Code.wp _ _ _ a w → _›) _ _ ?_
            go_wp2
            go_roundw
            case rel => exact ⟨k + 1, M, by go_num, by omega, by omega, OW5.out, GR5.out, TR.out, SR.out⟩
            case measure => simp [intOf]; omega
    · have hkn : ¬ (k : Int) < up := by omega
      go_wp2
      go_end0
      exact ⟨M0, ⟨rfl, OW0.out, GR0.out⟩, TR0.out, SR0.out.sub (Nat.le_refl _) (by omega)⟩
end Go.Proofs.Ytclfbjbbdfejkaa.Ord
