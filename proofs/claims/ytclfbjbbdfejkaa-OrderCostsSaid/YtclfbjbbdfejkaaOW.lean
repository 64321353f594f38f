/- The law's head answers true. -/
import Derived.Test.YtclfbjbbdfejkaaOV
namespace Go.Proofs.Ytclfbjbbdfejkaa.Ord
open Go.RowKit

def xa : Item := ⟨1, 1, 5, 10, false⟩
def xb : Item := ⟨2, 0, 9, 20, false⟩
def xc : Item := ⟨3, 0, 1, 30, true⟩
abbrev LL : List Item := [xa, xb, xc]
theorem srt_LL : srt LL = [xb, xa] := by kernel_rfl
theorem vic_1 : vicL LL 15 60 = [2] ∧ vicOk LL 15 60 = true := ⟨by kernel_rfl, by kernel_rfl⟩
theorem vic_2 : vicL LL 30 60 = [2, 1] ∧ vicOk LL 30 60 = true := ⟨by kernel_rfl, by kernel_rfl⟩
theorem vic_3 : vicL LL 31 60 = [] ∧ vicOk LL 31 60 = false := ⟨by kernel_rfl, by kernel_rfl⟩
theorem cost_LL : costA LL = 60 ∧ costP LL = 30 := ⟨by kernel_rfl, by kernel_rfl⟩
theorem first_ba : first xb xa = true := by kernel_rfl
theorem first_aa : first xa xa = false := by kernel_rfl
theorem right_a : right xa = true := by kernel_rfl
theorem right_0 : right it0 = false := by kernel_rfl
theorem its_fill2 (x y : Item) : Instr.fill (fun i => some (i * 5, 5)) ((Array.range (2 * 5)).map (zeroE.cells[· % zeroE.cells.size]!)) [(0, Value.agg x.cells.toArray), (1, .agg y.cells.toArray)] = some (x.cells ++ y.cells).toArray := by kernel_rfl
theorem its_fill3 (x y z : Item) : Instr.fill (fun i => some (i * 5, 5)) ((Array.range (3 * 5)).map (zeroE.cells[· % zeroE.cells.size]!)) [(0, Value.agg x.cells.toArray), (1, .agg y.cells.toArray), (2, .agg z.cells.toArray)] = some (x.cells ++ (y.cells ++ z.cells)).toArray := by kernel_rfl
theorem step_build2 {o : Oper} {a : Act} {w : World} {post : Value → World → Prop} (x y : Tmp) (ho : o.op = .buildSlice 22 2 #[(0, .tmp x), (1, .tmp y)]) (e1 e2 : Item) (hx : a.tmps.getD x undef = .agg e1.cells.toArray) (hy : a.tmps.getD y undef = .agg e2.cells.toArray)
    (hp : post (.slice (some ⟨w.heap.size, 0, none⟩) 2 2) (w.alloc (.cells (e1.cells ++ e2.cells).toArray 24))) : Flow.step Try.prog o a w post := by
  obtain ⟨i0, hi, hz0, hz1, hz2⟩ := info_parts infoE
  have hrun : (Instr.buildSlice 22 2 #[(0, .agg e1.cells.toArray), (1, .agg e2.cells.toArray)]).run Try.prog w = .ok (.slice (some ⟨w.heap.size, 0, none⟩) 2 2) (w.alloc (.cells (e1.cells ++ e2.cells).toArray 24)) := by
    refine run_buildSlice w 22 24 2 _ _ i0 zeroE Try.underlying22 hi hz0 (by rw [hz1]; decide) (by rw [hz1]; decide) ?_
    rw [hz1]
    exact its_fill2 e1 e2
  refine step_run ?_ hp
  unfold execOp
  simp only [ho, Act.eval, List.map_toArray, List.map_cons, List.map_nil, hx, hy, Sem.run_bind, hrun, Result.andThen_ok, Sem.run_pure]
theorem wpList_build3 {ops : Array Oper} {rest : List Oper} {o : Oper} {a : Act} {w : World} {Q : Exit → Act → World → Prop} (hg : o.guard = none) (x y z : Tmp) (ho : o.op = .buildSlice 22 3 #[(0, .tmp x), (1, .tmp y), (2, .tmp z)]) (e1 e2 e3 : Item)
    (hx : a.eval (.tmp x) = .agg e1.cells.toArray) (hy : a.eval (.tmp y) = .agg e2.cells.toArray) (hz : a.eval (.tmp z) = .agg e3.cells.toArray)
    (h : wpList Try.prog ops Q rest (a.put o.dst (.slice (some ⟨w.heap.size, 0, none⟩) 3 3)) (w.alloc (.cells (e1.cells ++ (e2.cells ++ e3.cells)).toArray 24))) : wpList Try.prog ops Q (o :: rest) a w := by
  obtain ⟨i0, hi, hz0, hz1, hz2⟩ := info_parts infoE
  refine wpList_buildSlice hg 22 24 3 _ ho _ i0 zeroE Try.underlying22 hi hz0 (by rw [hz1]; decide) (by rw [hz1]; decide) ?_ h
  rw [hz1]
  simp only [List.map_toArray, List.map_cons, List.map_nil, hx, hy, hz]
  exact its_fill3 e1 e2 e3
theorem its_lit (w : World) (l : List Item) (hl : l.length ≤ 1000) (n : Nat) (hn : l.length = n) : Its (w.alloc (.cells (l.flatMap Item.cells).toArray 24)) (some ⟨w.heap.size, 0, none⟩) n n l := by
  subst hn
  refine ⟨rfl, Nat.le_refl _, by omega, fun e => (by cases e), fun ad e _ => ?_⟩
  cases e
  refine ⟨_, 0, rfl, fun j hj i hi => ?_⟩
  rw [Item.cells_length] at hi
  rw [World.cell?_alloc_at _ _ _ _ rfl, List.getElem?_toArray, Nat.zero_add, its_cell' l j i hj hi]
theorem its2 (w : World) (x y : Item) : Its (w.alloc (.cells (x.cells ++ y.cells).toArray 24)) (some ⟨w.heap.size, 0, none⟩) 2 2 [x, y] := by
  have h := its_lit w [x, y] (by simp) 2 rfl
  simpa using h
theorem its3 (w : World) (x y z : Item) : Its (w.alloc (.cells (x.cells ++ (y.cells ++ z.cells)).toArray 24)) (some ⟨w.heap.size, 0, none⟩) 3 3 [x, y, z] := by
  have h := its_lit w [x, y, z] (by simp) 3 rfl
  simpa using h
def G8 (s _Ba _Bb : Nat) (A5 A7 : Option Addr) (c5 c7 : Nat) : Nat → Value → World → Prop
  | 0 => fun v _ => v = .slice A5 1 c5
  | 1 => fun v w => ∃ A c, v = .slice A 1 c ∧ Rd w .i64 A 1 c [2]
  | 2 => fun v _ => v = .bool true
  | 3 => fun v _ => v = .bool true
  | 4 => fun v _ => v = .bool true
  | 5 => fun v _ => v = .bool true
  | 6 => fun v _ => v = .bool true
  | 7 => fun v _ => v = .slice A7 2 c7
  | 8 => fun v w => ∃ A c, v = .slice A 2 c ∧ Rd w .i64 A 2 c [2, 1]
  | 9 => fun v _ => v = .bool true
  | 10 => fun v _ => v = .bool true
  | 11 => fun v _ => v = .bool true
  | 12 => fun v _ => v = .bool true
  | 13 => fun v _ => v = .bool true
  | 14 => fun v _ => v = .bool true
  | 15 => fun v _ => v = .bool false
  | 16 => fun v _ => v = .bool true
  | 17 => fun v _ => v = .bool true
  | 18 => fun v _ => v = .bool true
  | 19 => fun v _ => v = .int .i64 60
  | 20 => fun v _ => v = .bool true
  | 21 => fun v _ => v = .bool true
  | 22 => fun v _ => v = .bool true
  | 23 => fun v _ => v = .int .i64 30
  | 24 => fun v _ => v = .bool true
  | 25 => fun v _ => v = .bool true
  | 26 => fun v _ => v = .bool true
  | 27 => fun v _ => v = .slice (some ⟨s, 0, none⟩) 3 3
  | 28 => fun v w => ∃ A c, v = .slice A 2 c ∧ Its w A 2 c [xb, xa]
  | 29 => fun v _ => v = .agg xb.cells.toArray
  | 30 => fun v _ => v = .agg xa.cells.toArray
  | 31 => fun v w => ∃ A c, v = .slice A 2 c ∧ Its w A 2 c [xb, xa]
  | 32 => fun v _ => v = .bool true
  | 33 => fun v _ => v = .bool true
  | 34 => fun v _ => v = .bool true
  | 35 => fun v _ => v = .agg xb.cells.toArray
  | 36 => fun v _ => v = .agg xa.cells.toArray
  | 37 => fun v _ => v = .bool true
  | 38 => fun v _ => v = .bool true
  | 39 => fun v _ => v = .bool true
  | 40 => fun v _ => v = .agg xa.cells.toArray
  | 41 => fun v _ => v = .agg xa.cells.toArray
  | 42 => fun v _ => v = .bool false
  | 43 => fun v _ => v = .bool true
  | 44 => fun v _ => v = .bool true
  | 45 => fun v _ => v = .bool true
  | 46 => fun v _ => v = .agg xa.cells.toArray
  | 47 => fun v _ => v = .bool true
  | 48 => fun v _ => v = .bool true
  | 49 => fun v _ => v = .bool true
  | 50 => fun v _ => v = .agg it0.cells.toArray
  | 51 => fun v _ => v = .bool false
  | 52 => fun v _ => v = .bool true
  | 53 => fun v _ => v = .bool true
  | 54 => fun v _ => v = .bool true
  | _ => fun _ _ => True
theorem G8_stable (s Ba Bb : Nat) (A5 A7 : Option Addr) (c5 c7 : Nat) : ∀ i v w w', G8 s Ba Bb A5 A7 c5 c7 i v w → Below w.heap.size w w' → G8 s Ba Bb A5 A7 c5 c7 i v w' := by
  intro i v w w' h hb
  match i, h with
  | 0, h => exact h
  | 1, h => exact (by obtain ⟨A, c, e, hr⟩ := h; exact ⟨A, c, e, hr.below hb⟩)
  | 2, h => exact h
  | 3, h => exact h
  | 4, h => exact h
  | 5, h => exact h
  | 6, h => exact h
  | 7, h => exact h
  | 8, h => exact (by obtain ⟨A, c, e, hr⟩ := h; exact ⟨A, c, e, hr.below hb⟩)
  | 9, h => exact h
  | 10, h => exact h
  | 11, h => exact h
  | 12, h => exact h
  | 13, h => exact h
  | 14, h => exact h
  | 15, h => exact h
  | 16, h => exact h
  | 17, h => exact h
  | 18, h => exact h
  | 19, h => exact h
  | 20, h => exact h
  | 21, h => exact h
  | 22, h => exact h
  | 23, h => exact h
  | 24, h => exact h
  | 25, h => exact h
  | 26, h => exact h
  | 27, h => exact h
  | 28, h => exact (by obtain ⟨A, c, e, hr⟩ := h; exact ⟨A, c, e, hr.below hb⟩)
  | 29, h => exact h
  | 30, h => exact h
  | 31, h => exact (by obtain ⟨A, c, e, hr⟩ := h; exact ⟨A, c, e, hr.below hb⟩)
  | 32, h => exact h
  | 33, h => exact h
  | 34, h => exact h
  | 35, h => exact h
  | 36, h => exact h
  | 37, h => exact h
  | 38, h => exact h
  | 39, h => exact h
  | 40, h => exact h
  | 41, h => exact h
  | 42, h => exact h
  | 43, h => exact h
  | 44, h => exact h
  | 45, h => exact h
  | 46, h => exact h
  | 47, h => exact h
  | 48, h => exact h
  | 49, h => exact h
  | 50, h => exact h
  | 51, h => exact h
  | 52, h => exact h
  | 53, h => exact h
  | 54, h => exact h
  | _ + 55, _ => exact trivial
set_option maxRecDepth 100000 in
set_option maxHeartbeats 8000000 in
theorem head_any (w : World) : Calls Try.prog 8 #[] w (SayB w true) := by
  have HB0 := Lib.hid (Below.refl w.heap.size w)
  have HI5 : Hid (∀ x : Item, (Try.prog.info? 24).map (·.size) = some x.cells.toArray.size) := Lib.hid (fun x => item_info x)
  have HO5 : Hid (∀ x : Item, x.cells.toArray.all (·.oneCell') = true) := Lib.hid (fun x => by rw [List.all_toArray, List.all_eq_true]; exact item_one x)
  go_enter Try.func8, Try.ntmps8
  go_upto_region 2 with (refine wpList_store_row rfl 24 (.tmp 1) (.tmp 13) rfl w.heap.size xa.cells.toArray rfl rfl 24 _ (heap_alloc_new _ _) (HI5.out xa) rfl (HO5.out xa) ?_; rw [World.setRow_alloc_new])
  obtain ⟨W1, hW1⟩ : ∃ W, W = w.alloc (.cells xa.cells.toArray 24) := ⟨_, rfl⟩
  rw [← hW1]
  have eW1 : Below w.heap.size w W1 := by rw [hW1]; exact (Below.refl _ _).alloc (Nat.le_refl _) _
  obtain ⟨Ba, hBa⟩ : ∃ b, b = w.heap.size := ⟨_, rfl⟩
  rw [← hBa]
  have HA1 := Lib.hid (show W1.heap[Ba]? = some (.cells xa.cells.toArray 24 (0, 0)) by rw [hW1, hBa]; exact heap_alloc_new _ _)
  have BW1 := Lib.hid (below_trans HB0.out eW1 HB0.out.size)
  clear hW1 eW1 hBa
  go_upto_region 3 with (refine wpList_store_row rfl 24 (.tmp 2) (.tmp 14) rfl W1.heap.size xb.cells.toArray rfl rfl 24 _ (heap_alloc_new _ _) (HI5.out xb) rfl (HO5.out xb) ?_; rw [World.setRow_alloc_new])
  obtain ⟨W2, hW2⟩ : ∃ W, W = W1.alloc (.cells xb.cells.toArray 24) := ⟨_, rfl⟩
  rw [← hW2]
  have eW2 : Below W1.heap.size W1 W2 := by rw [hW2]; exact (Below.refl _ _).alloc (Nat.le_refl _) _
  obtain ⟨Bb, hBb⟩ : ∃ b, b = W1.heap.size := ⟨_, rfl⟩
  rw [← hBb]
  have HB2 := Lib.hid (show W2.heap[Bb]? = some (.cells xb.cells.toArray 24 (0, 0)) by rw [hW2, hBb]; exact heap_alloc_new _ _)
  have BW2 := Lib.hid (below_trans BW1.out eW2 BW1.out.size)
  have HA2 := Lib.hid (blk_below HA1.out eW2)
  clear hW2 eW2 hBb
  go_upto_region 4 with (refine wpList_store_row rfl 24 (.tmp 3) (.tmp 15) rfl W2.heap.size xc.cells.toArray rfl rfl 24 _ (heap_alloc_new _ _) (HI5.out xc) rfl (HO5.out xc) ?_; rw [World.setRow_alloc_new])
  obtain ⟨W3, hW3⟩ : ∃ W, W = W2.alloc (.cells xc.cells.toArray 24) := ⟨_, rfl⟩
  rw [← hW3]
  have eW3 : Below W2.heap.size W2 W3 := by rw [hW3]; exact (Below.refl _ _).alloc (Nat.le_refl _) _
  obtain ⟨Bc, hBc⟩ : ∃ b, b = W2.heap.size := ⟨_, rfl⟩
  rw [← hBc]
  have HC3 := Lib.hid (show W3.heap[Bc]? = some (.cells xc.cells.toArray 24 (0, 0)) by rw [hW3, hBc]; exact heap_alloc_new _ _)
  have BW3 := Lib.hid (below_trans BW2.out eW3 BW2.out.size)
  have HA3 := Lib.hid (blk_below HA2.out eW3)
  have HB3 := Lib.hid (blk_below HB2.out eW3)
  clear hW3 eW3 hBc
  go_upto_region 5 with (first | (refine wpList_load_row rfl 24 (.tmp 1) rfl Ba rfl 24 xa.cells.toArray (0, 0) _ HA3.out Try.underlying24 rfl (HI5.out xa) ?_) | (refine wpList_load_row rfl 24 (.tmp 2) rfl Bb rfl 24 xb.cells.toArray (0, 0) _ HB3.out Try.underlying24 rfl (HI5.out xb) ?_) | (refine wpList_load_row rfl 24 (.tmp 3) rfl Bc rfl 24 xc.cells.toArray (0, 0) _ HC3.out Try.underlying24 rfl (HI5.out xc) ?_) | (refine wpList_build3 rfl 16 17 18 rfl xa xb xc rfl rfl rfl ?_))
  have hL := its3 W3 xa xb xc
  obtain ⟨W4, hW4⟩ : ∃ W, W = W3.alloc (.cells (xa.cells ++ (xb.cells ++ xc.cells)).toArray 24) := ⟨_, rfl⟩
  rw [← hW4] at hL ⊢
  have e4 : Below W3.heap.size W3 W4 := by rw [hW4]; exact (Below.refl _ _).alloc (Nat.le_refl _) _
  have B4 := Lib.hid (below_trans BW3.out e4 BW3.out.size)
  have HA4 := Lib.hid (blk_below HA3.out e4)
  have HB4 := Lib.hid (blk_below HB3.out e4)
  obtain ⟨s, hs⟩ : ∃ s, s = W3.heap.size := ⟨_, rfl⟩
  rw [← hs] at hL ⊢
  have HL4 := Lib.hid hL
  clear hs hW4 hL e4
  go_wp2_with fail
  refine (victims_any (some ⟨s, 0, none⟩) 3 3 LL 15 60 W4 HL4.out (by decide)).mono ?_
  rintro r W5 ⟨v1, rfl, ho1, hb1⟩
  rw [vic_1.1] at ho1
  rw [vic_1.2]
  obtain ⟨A5, c5, rfl, hr1, _⟩ := ho1.rd
  have R5 := Lib.hid (show Rd W5 .i64 A5 1 c5 [2] from hr1)
  have HL5 := Lib.hid (HL4.out.below hb1)
  have HA5 := Lib.hid (blk_below HA4.out hb1)
  have HB5 := Lib.hid (blk_below HB4.out hb1)
  have B5 := Lib.hid (below_trans B4.out hb1 B4.out.size)
  clear ho1 hr1 hb1
  go_wp2_with fail
  refine (victims_any (some ⟨s, 0, none⟩) 3 3 LL 30 60 W5 HL5.out (by decide)).mono ?_
  rintro r W6 ⟨v2, rfl, ho2, hb2⟩
  rw [vic_2.1] at ho2
  rw [vic_2.2]
  obtain ⟨A7, c7, rfl, hr2, _⟩ := ho2.rd
  have R7 := Lib.hid (show Rd W6 .i64 A7 2 c7 [2, 1] from hr2)
  have R56 := Lib.hid (R5.out.below hb2)
  have HL6 := Lib.hid (HL5.out.below hb2)
  have HA6 := Lib.hid (blk_below HA5.out hb2)
  have HB6 := Lib.hid (blk_below HB5.out hb2)
  have B6 := Lib.hid (below_trans B5.out hb2 B5.out.size)
  clear ho2 hr2 hb2
  go_wp2_with fail
  refine (victims_any (some ⟨s, 0, none⟩) 3 3 LL 31 60 W6 HL6.out (by decide)).mono ?_
  rintro r W7 ⟨v3, rfl, ho3, hb3⟩
  rw [vic_3.1] at ho3
  rw [vic_3.2]
  obtain ⟨A9, c9, rfl, hr3, _⟩ := ho3.rd
  have R57 := Lib.hid (R56.out.below hb3)
  have R77 := Lib.hid (R7.out.below hb3)
  have HL7 := Lib.hid (HL6.out.below hb3)
  have HA7 := Lib.hid (blk_below HA6.out hb3)
  have HB7 := Lib.hid (blk_below HB6.out hb3)
  have B7 := Lib.hid (below_trans B6.out hb3 B6.out.size)
  clear ho3 hr3 hb3
  go_wp2_with fail
  refine (cost_any (some ⟨s, 0, none⟩) 3 3 LL W7 HL7.out (by decide)).mono ?_
  rintro r W8 ⟨rfl, hb8⟩
  rw [cost_LL.1, cost_LL.2]
  have H5 := Lib.hid (R57.out.below hb8)
  have H7 := Lib.hid (R77.out.below hb8)
  have HL := Lib.hid (HL7.out.below hb8)
  have HA := Lib.hid (at_item (blk_below HA7.out hb8))
  have HB := Lib.hid (at_item (blk_below HB7.out hb8))
  have B8 := Lib.hid (below_trans B7.out hb8 B7.out.size)
  clear hb8
  go_wp2_with fail
  refine Flow.wp_region_flow (by kernel_rfl) (G8 s Ba Bb A5 A7 c5 c7) (by kernel_rfl) (G8_stable s Ba Bb A5 A7 c5 c7) ?loc ?fin
  case loc =>
    intro i o ho a w hw hk
    match i, ho with
    | 0, ho =>
      have ho2 := Option.some.inj ho; clear ho; subst ho2
      have r5 : a.tmps.getD 5 undef = .slice A5 1 c5 := (hk 5 (Flow.mem_looks (by kernel_rfl))).before (by kernel_rfl)
      rw [if_pos (Flow.wanted_free rfl _)]
      refine Flow.step_value (v := .slice A5 1 c5) ?_ ⟨Below.refl _ _, rfl⟩
      simp [execOp, Act.eval, r5, go_sem]
    | 1, ho =>
      have ho2 := Option.some.inj ho; clear ho; subst ho2
      rw [if_pos (Flow.wanted_free rfl _)]
      refine step_run (v := .slice (some ⟨w.heap.size, 0, none⟩) 1 1) (w' := w.alloc (.cells ([2].map (Value.int .i64)).toArray 2)) (by simp [execOp, Act.eval, go_sem]) ⟨(Below.refl _ _).alloc (Nat.le_refl _) _, _, _, rfl, Rd.lit w .i64 2 [2] (by decide)⟩
    | 2, ho =>
      have ho2 := Option.some.inj ho; clear ho; subst ho2
      have r40 : a.tmps.getD 40 undef = .slice A5 1 c5 := (hk 40 (Flow.mem_looks (by kernel_rfl))).by_ 0 (by kernel_rfl) (by decide)
      have r41 := (hk 41 (Flow.mem_looks (by kernel_rfl))).by_ 1 (by kernel_rfl) (by decide)
      rw [if_pos (Flow.wanted_free rfl _)]
      obtain ⟨A2, c2, e2, hr2⟩ := r41
      refine Flow.step_call (f := 20) (args := #[.slice A5 1 c5, .slice A2 1 c2]) (by simp [execOp, Act.eval, r40, e2, go_sem]) ?_
      refine (sameIds_any A5 A2 1 c5 1 c2 [2] [2] w (H5.out.below hw) hr2).mono ?_
      rintro r w1 ⟨rfl, hb1⟩
      exact ⟨_, rfl, hb1, congrArg Value.bool (by decide)⟩
    | 3, ho =>
      have ho2 := Option.some.inj ho; clear ho; subst ho2
      have r42 : a.tmps.getD 42 undef = .bool true := (hk 42 (Flow.mem_looks (by kernel_rfl))).by_ 2 (by kernel_rfl) (by decide)
      rw [if_pos (Flow.wanted_free rfl _)]
      refine Flow.step_value (v := .bool true) ?_ ⟨Below.refl _ _, rfl⟩
      simp [execOp, Act.eval, r42, go_sem]
    | 4, ho =>
      have ho2 := Option.some.inj ho; clear ho; subst ho2
      have r6 : a.tmps.getD 6 undef = .bool true := (hk 6 (Flow.mem_looks (by kernel_rfl))).before (by kernel_rfl)
      have r43 : a.tmps.getD 43 undef = .bool true := (hk 43 (Flow.mem_looks (by kernel_rfl))).by_ 3 (by kernel_rfl) (by decide)
      rw [if_pos (Flow.wanted_by (t := 43) rfl (by kernel_rfl) r43)]
      refine Flow.step_value (v := .bool true) ?_ ⟨Below.refl _ _, rfl⟩
      simp [execOp, Act.eval, r6, go_sem]
    | 5, ho =>
      have ho2 := Option.some.inj ho; clear ho; subst ho2
      have r43 : a.tmps.getD 43 undef = .bool true := (hk 43 (Flow.mem_looks (by kernel_rfl))).by_ 3 (by kernel_rfl) (by decide)
      have r44 : a.tmps.getD 44 undef = .bool true := (hk 44 (Flow.mem_looks (by kernel_rfl))).by_ 4 (by kernel_rfl) (by decide)
      rw [if_pos (Flow.wanted_free rfl _)]
      refine Flow.step_value (v := .bool true) ?_ ⟨Below.refl _ _, rfl⟩
      simp [execOp, Act.eval, r43, r44, go_sem]
    | 6, ho =>
      have ho2 := Option.some.inj ho; clear ho; subst ho2
      have r45 : a.tmps.getD 45 undef = .bool true := (hk 45 (Flow.mem_looks (by kernel_rfl))).by_ 5 (by kernel_rfl) (by decide)
      rw [if_pos (Flow.wanted_free rfl _)]
      refine Flow.step_value (v := .bool true) ?_ ⟨Below.refl _ _, rfl⟩
      simp [execOp, Act.eval, r45, go_sem]
    | 7, ho =>
      have ho2 := Option.some.inj ho; clear ho; subst ho2
      have r7 : a.tmps.getD 7 undef = .slice A7 2 c7 := (hk 7 (Flow.mem_looks (by kernel_rfl))).before (by kernel_rfl)
      have r46 : a.tmps.getD 46 undef = .bool true := (hk 46 (Flow.mem_looks (by kernel_rfl))).by_ 6 (by kernel_rfl) (by decide)
      rw [if_pos (Flow.wanted_by (t := 46) rfl (by kernel_rfl) r46)]
      refine Flow.step_value (v := .slice A7 2 c7) ?_ ⟨Below.refl _ _, rfl⟩
      simp [execOp, Act.eval, r7, go_sem]
    | 8, ho =>
      have ho2 := Option.some.inj ho; clear ho; subst ho2
      have r46 : a.tmps.getD 46 undef = .bool true := (hk 46 (Flow.mem_looks (by kernel_rfl))).by_ 6 (by kernel_rfl) (by decide)
      rw [if_pos (Flow.wanted_by (t := 46) rfl (by kernel_rfl) r46)]
      refine step_run (v := .slice (some ⟨w.heap.size, 0, none⟩) 2 2) (w' := w.alloc (.cells ([2, 1].map (Value.int .i64)).toArray 2)) (by simp [execOp, Act.eval, go_sem]) ⟨(Below.refl _ _).alloc (Nat.le_refl _) _, _, _, rfl, Rd.lit w .i64 2 [2, 1] (by decide)⟩
    | 9, ho =>
      have ho2 := Option.some.inj ho; clear ho; subst ho2
      have r47 : a.tmps.getD 47 undef = .slice A7 2 c7 := (hk 47 (Flow.mem_looks (by kernel_rfl))).by_ 7 (by kernel_rfl) (by decide)
      have r48 := (hk 48 (Flow.mem_looks (by kernel_rfl))).by_ 8 (by kernel_rfl) (by decide)
      have r46 : a.tmps.getD 46 undef = .bool true := (hk 46 (Flow.mem_looks (by kernel_rfl))).by_ 6 (by kernel_rfl) (by decide)
      rw [if_pos (Flow.wanted_by (t := 46) rfl (by kernel_rfl) r46)]
      obtain ⟨A2, c2, e2, hr2⟩ := r48
      refine Flow.step_call (f := 20) (args := #[.slice A7 2 c7, .slice A2 2 c2]) (by simp [execOp, Act.eval, r47, e2, go_sem]) ?_
      refine (sameIds_any A7 A2 2 c7 2 c2 [2, 1] [2, 1] w (H7.out.below hw) hr2).mono ?_
      rintro r w1 ⟨rfl, hb1⟩
      exact ⟨_, rfl, hb1, congrArg Value.bool (by decide)⟩
    | 10, ho =>
      have ho2 := Option.some.inj ho; clear ho; subst ho2
      have r46 : a.tmps.getD 46 undef = .bool true := (hk 46 (Flow.mem_looks (by kernel_rfl))).by_ 6 (by kernel_rfl) (by decide)
      have r49 : a.tmps.getD 49 undef = .bool true := (hk 49 (Flow.mem_looks (by kernel_rfl))).by_ 9 (by kernel_rfl) (by decide)
      rw [if_pos (Flow.wanted_free rfl _)]
      refine Flow.step_value (v := .bool true) ?_ ⟨Below.refl _ _, rfl⟩
      simp [execOp, Act.eval, r46, r49, go_sem]
    | 11, ho =>
      have ho2 := Option.some.inj ho; clear ho; subst ho2
      have r50 : a.tmps.getD 50 undef = .bool true := (hk 50 (Flow.mem_looks (by kernel_rfl))).by_ 10 (by kernel_rfl) (by decide)
      rw [if_pos (Flow.wanted_free rfl _)]
      refine Flow.step_value (v := .bool true) ?_ ⟨Below.refl _ _, rfl⟩
      simp [execOp, Act.eval, r50, go_sem]
    | 12, ho =>
      have ho2 := Option.some.inj ho; clear ho; subst ho2
      have r8 : a.tmps.getD 8 undef = .bool true := (hk 8 (Flow.mem_looks (by kernel_rfl))).before (by kernel_rfl)
      have r51 : a.tmps.getD 51 undef = .bool true := (hk 51 (Flow.mem_looks (by kernel_rfl))).by_ 11 (by kernel_rfl) (by decide)
      rw [if_pos (Flow.wanted_by (t := 51) rfl (by kernel_rfl) r51)]
      refine Flow.step_value (v := .bool true) ?_ ⟨Below.refl _ _, rfl⟩
      simp [execOp, Act.eval, r8, go_sem]
    | 13, ho =>
      have ho2 := Option.some.inj ho; clear ho; subst ho2
      have r51 : a.tmps.getD 51 undef = .bool true := (hk 51 (Flow.mem_looks (by kernel_rfl))).by_ 11 (by kernel_rfl) (by decide)
      have r52 : a.tmps.getD 52 undef = .bool true := (hk 52 (Flow.mem_looks (by kernel_rfl))).by_ 12 (by kernel_rfl) (by decide)
      rw [if_pos (Flow.wanted_free rfl _)]
      refine Flow.step_value (v := .bool true) ?_ ⟨Below.refl _ _, rfl⟩
      simp [execOp, Act.eval, r51, r52, go_sem]
    | 14, ho =>
      have ho2 := Option.some.inj ho; clear ho; subst ho2
      have r53 : a.tmps.getD 53 undef = .bool true := (hk 53 (Flow.mem_looks (by kernel_rfl))).by_ 13 (by kernel_rfl) (by decide)
      rw [if_pos (Flow.wanted_free rfl _)]
      refine Flow.step_value (v := .bool true) ?_ ⟨Below.refl _ _, rfl⟩
      simp [execOp, Act.eval, r53, go_sem]
    | 15, ho =>
      have ho2 := Option.some.inj ho; clear ho; subst ho2
      have r10 : a.tmps.getD 10 undef = .bool false := (hk 10 (Flow.mem_looks (by kernel_rfl))).before (by kernel_rfl)
      have r54 : a.tmps.getD 54 undef = .bool true := (hk 54 (Flow.mem_looks (by kernel_rfl))).by_ 14 (by kernel_rfl) (by decide)
      rw [if_pos (Flow.wanted_by (t := 54) rfl (by kernel_rfl) r54)]
      refine Flow.step_value (v := .bool false) ?_ ⟨Below.refl _ _, rfl⟩
      simp [execOp, Act.eval, r10, go_sem]
    | 16, ho =>
      have ho2 := Option.some.inj ho; clear ho; subst ho2
      have r55 : a.tmps.getD 55 undef = .bool false := (hk 55 (Flow.mem_looks (by kernel_rfl))).by_ 15 (by kernel_rfl) (by decide)
      have r54 : a.tmps.getD 54 undef = .bool true := (hk 54 (Flow.mem_looks (by kernel_rfl))).by_ 14 (by kernel_rfl) (by decide)
      rw [if_pos (Flow.wanted_by (t := 54) rfl (by kernel_rfl) r54)]
      refine Flow.step_value (v := .bool true) ?_ ⟨Below.refl _ _, rfl⟩
      simp [execOp, Act.eval, r55, go_sem]
    | 17, ho =>
      have ho2 := Option.some.inj ho; clear ho; subst ho2
      have r54 : a.tmps.getD 54 undef = .bool true := (hk 54 (Flow.mem_looks (by kernel_rfl))).by_ 14 (by kernel_rfl) (by decide)
      have r56 : a.tmps.getD 56 undef = .bool true := (hk 56 (Flow.mem_looks (by kernel_rfl))).by_ 16 (by kernel_rfl) (by decide)
      rw [if_pos (Flow.wanted_free rfl _)]
      refine Flow.step_value (v := .bool true) ?_ ⟨Below.refl _ _, rfl⟩
      simp [execOp, Act.eval, r54, r56, go_sem]
    | 18, ho =>
      have ho2 := Option.some.inj ho; clear ho; subst ho2
      have r57 : a.tmps.getD 57 undef = .bool true := (hk 57 (Flow.mem_looks (by kernel_rfl))).by_ 17 (by kernel_rfl) (by decide)
      rw [if_pos (Flow.wanted_free rfl _)]
      refine Flow.step_value (v := .bool true) ?_ ⟨Below.refl _ _, rfl⟩
      simp [execOp, Act.eval, r57, go_sem]
    | 19, ho =>
      have ho2 := Option.some.inj ho; clear ho; subst ho2
      have r11 : a.tmps.getD 11 undef = .int .i64 60 := (hk 11 (Flow.mem_looks (by kernel_rfl))).before (by kernel_rfl)
      have r58 : a.tmps.getD 58 undef = .bool true := (hk 58 (Flow.mem_looks (by kernel_rfl))).by_ 18 (by kernel_rfl) (by decide)
      rw [if_pos (Flow.wanted_by (t := 58) rfl (by kernel_rfl) r58)]
      refine Flow.step_value (v := .int .i64 60) ?_ ⟨Below.refl _ _, rfl⟩
      simp [execOp, Act.eval, r11, go_sem]
    | 20, ho =>
      have ho2 := Option.some.inj ho; clear ho; subst ho2
      have r59 : a.tmps.getD 59 undef = .int .i64 60 := (hk 59 (Flow.mem_looks (by kernel_rfl))).by_ 19 (by kernel_rfl) (by decide)
      have r58 : a.tmps.getD 58 undef = .bool true := (hk 58 (Flow.mem_looks (by kernel_rfl))).by_ 18 (by kernel_rfl) (by decide)
      rw [if_pos (Flow.wanted_by (t := 58) rfl (by kernel_rfl) r58)]
      refine Flow.step_value (v := .bool true) ?_ ⟨Below.refl _ _, rfl⟩
      simp [execOp, Act.eval, r59, go_sem]
    | 21, ho =>
      have ho2 := Option.some.inj ho; clear ho; subst ho2
      have r58 : a.tmps.getD 58 undef = .bool true := (hk 58 (Flow.mem_looks (by kernel_rfl))).by_ 18 (by kernel_rfl) (by decide)
      have r60 : a.tmps.getD 60 undef = .bool true := (hk 60 (Flow.mem_looks (by kernel_rfl))).by_ 20 (by kernel_rfl) (by decide)
      rw [if_pos (Flow.wanted_free rfl _)]
      refine Flow.step_value (v := .bool true) ?_ ⟨Below.refl _ _, rfl⟩
      simp [execOp, Act.eval, r58, r60, go_sem]
    | 22, ho =>
      have ho2 := Option.some.inj ho; clear ho; subst ho2
      have r61 : a.tmps.getD 61 undef = .bool true := (hk 61 (Flow.mem_looks (by kernel_rfl))).by_ 21 (by kernel_rfl) (by decide)
      rw [if_pos (Flow.wanted_free rfl _)]
      refine Flow.step_value (v := .bool true) ?_ ⟨Below.refl _ _, rfl⟩
      simp [execOp, Act.eval, r61, go_sem]
    | 23, ho =>
      have ho2 := Option.some.inj ho; clear ho; subst ho2
      have r12 : a.tmps.getD 12 undef = .int .i64 30 := (hk 12 (Flow.mem_looks (by kernel_rfl))).before (by kernel_rfl)
      have r62 : a.tmps.getD 62 undef = .bool true := (hk 62 (Flow.mem_looks (by kernel_rfl))).by_ 22 (by kernel_rfl) (by decide)
      rw [if_pos (Flow.wanted_by (t := 62) rfl (by kernel_rfl) r62)]
      refine Flow.step_value (v := .int .i64 30) ?_ ⟨Below.refl _ _, rfl⟩
      simp [execOp, Act.eval, r12, go_sem]
    | 24, ho =>
      have ho2 := Option.some.inj ho; clear ho; subst ho2
      have r63 : a.tmps.getD 63 undef = .int .i64 30 := (hk 63 (Flow.mem_looks (by kernel_rfl))).by_ 23 (by kernel_rfl) (by decide)
      have r62 : a.tmps.getD 62 undef = .bool true := (hk 62 (Flow.mem_looks (by kernel_rfl))).by_ 22 (by kernel_rfl) (by decide)
      rw [if_pos (Flow.wanted_by (t := 62) rfl (by kernel_rfl) r62)]
      refine Flow.step_value (v := .bool true) ?_ ⟨Below.refl _ _, rfl⟩
      simp [execOp, Act.eval, r63, go_sem]
    | 25, ho =>
      have ho2 := Option.some.inj ho; clear ho; subst ho2
      have r62 : a.tmps.getD 62 undef = .bool true := (hk 62 (Flow.mem_looks (by kernel_rfl))).by_ 22 (by kernel_rfl) (by decide)
      have r64 : a.tmps.getD 64 undef = .bool true := (hk 64 (Flow.mem_looks (by kernel_rfl))).by_ 24 (by kernel_rfl) (by decide)
      rw [if_pos (Flow.wanted_free rfl _)]
      refine Flow.step_value (v := .bool true) ?_ ⟨Below.refl _ _, rfl⟩
      simp [execOp, Act.eval, r62, r64, go_sem]
    | 26, ho =>
      have ho2 := Option.some.inj ho; clear ho; subst ho2
      have r65 : a.tmps.getD 65 undef = .bool true := (hk 65 (Flow.mem_looks (by kernel_rfl))).by_ 25 (by kernel_rfl) (by decide)
      rw [if_pos (Flow.wanted_free rfl _)]
      refine Flow.step_value (v := .bool true) ?_ ⟨Below.refl _ _, rfl⟩
      simp [execOp, Act.eval, r65, go_sem]
    | 27, ho =>
      have ho2 := Option.some.inj ho; clear ho; subst ho2
      have r4 : a.tmps.getD 4 undef = .slice (some ⟨s, 0, none⟩) 3 3 := (hk 4 (Flow.mem_looks (by kernel_rfl))).before (by kernel_rfl)
      have r66 : a.tmps.getD 66 undef = .bool true := (hk 66 (Flow.mem_looks (by kernel_rfl))).by_ 26 (by kernel_rfl) (by decide)
      rw [if_pos (Flow.wanted_by (t := 66) rfl (by kernel_rfl) r66)]
      refine Flow.step_value (v := .slice (some ⟨s, 0, none⟩) 3 3) ?_ ⟨Below.refl _ _, rfl⟩
      simp [execOp, Act.eval, r4, go_sem]
    | 28, ho =>
      have ho2 := Option.some.inj ho; clear ho; subst ho2
      have r67 : a.tmps.getD 67 undef = .slice (some ⟨s, 0, none⟩) 3 3 := (hk 67 (Flow.mem_looks (by kernel_rfl))).by_ 27 (by kernel_rfl) (by decide)
      have r66 : a.tmps.getD 66 undef = .bool true := (hk 66 (Flow.mem_looks (by kernel_rfl))).by_ 26 (by kernel_rfl) (by decide)
      rw [if_pos (Flow.wanted_by (t := 66) rfl (by kernel_rfl) r66)]
      refine Flow.step_call (f := 18) (args := #[.slice (some ⟨s, 0, none⟩) 3 3]) (by simp [execOp, Act.eval, r67, go_sem]) ?_
      refine (sort_any (some ⟨s, 0, none⟩) 3 3 LL w (HL.out.below hw) (by decide)).mono ?_
      rintro r w1 ⟨v, m, rfl, hown, hb1⟩
      rw [srt_LL] at hown
      have hm : 2 = m := hown.len
      subst hm
      obtain ⟨A1, c1, rfl, hits, _⟩ := hown.its
      exact ⟨_, rfl, hb1, A1, c1, rfl, hits⟩
    | 29, ho =>
      have ho2 := Option.some.inj ho; clear ho; subst ho2
      have r2 : a.tmps.getD 2 undef = .pointer (some ⟨Bb, 0, none⟩) := (hk 2 (Flow.mem_looks (by kernel_rfl))).before (by kernel_rfl)
      have r66 : a.tmps.getD 66 undef = .bool true := (hk 66 (Flow.mem_looks (by kernel_rfl))).by_ 26 (by kernel_rfl) (by decide)
      rw [if_pos (Flow.wanted_by (t := 66) rfl (by kernel_rfl) r66)]
      refine step_load_mid 24 (.tmp 2) rfl Bb 0 r2 xb.cells _ (HB.out.below hw).range Try.underlying24 rfl (item_info xb) ⟨Below.refl _ _, rfl⟩
    | 30, ho =>
      have ho2 := Option.some.inj ho; clear ho; subst ho2
      have r1 : a.tmps.getD 1 undef = .pointer (some ⟨Ba, 0, none⟩) := (hk 1 (Flow.mem_looks (by kernel_rfl))).before (by kernel_rfl)
      have r66 : a.tmps.getD 66 undef = .bool true := (hk 66 (Flow.mem_looks (by kernel_rfl))).by_ 26 (by kernel_rfl) (by decide)
      rw [if_pos (Flow.wanted_by (t := 66) rfl (by kernel_rfl) r66)]
      refine step_load_mid 24 (.tmp 1) rfl Ba 0 r1 xa.cells _ (HA.out.below hw).range Try.underlying24 rfl (item_info xa) ⟨Below.refl _ _, rfl⟩
    | 31, ho =>
      have ho2 := Option.some.inj ho; clear ho; subst ho2
      have r69 : a.tmps.getD 69 undef = .agg xb.cells.toArray := (hk 69 (Flow.mem_looks (by kernel_rfl))).by_ 29 (by kernel_rfl) (by decide)
      have r70 : a.tmps.getD 70 undef = .agg xa.cells.toArray := (hk 70 (Flow.mem_looks (by kernel_rfl))).by_ 30 (by kernel_rfl) (by decide)
      have r66 : a.tmps.getD 66 undef = .bool true := (hk 66 (Flow.mem_looks (by kernel_rfl))).by_ 26 (by kernel_rfl) (by decide)
      rw [if_pos (Flow.wanted_by (t := 66) rfl (by kernel_rfl) r66)]
      refine step_build2 69 70 rfl xb xa r69 r70 ⟨(Below.refl _ _).alloc (Nat.le_refl _) _, _, _, rfl, its2 w xb xa⟩
    | 32, ho =>
      have ho2 := Option.some.inj ho; clear ho; subst ho2
      have r68 := (hk 68 (Flow.mem_looks (by kernel_rfl))).by_ 28 (by kernel_rfl) (by decide)
      have r71 := (hk 71 (Flow.mem_looks (by kernel_rfl))).by_ 31 (by kernel_rfl) (by decide)
      have r66 : a.tmps.getD 66 undef = .bool true := (hk 66 (Flow.mem_looks (by kernel_rfl))).by_ 26 (by kernel_rfl) (by decide)
      rw [if_pos (Flow.wanted_by (t := 66) rfl (by kernel_rfl) r66)]
      obtain ⟨A1, c1, e1, hr1⟩ := r68
      obtain ⟨A2, c2, e2, hr2⟩ := r71
      refine Flow.step_call (f := 17) (args := #[.slice A1 2 c1, .slice A2 2 c2]) (by simp [execOp, Act.eval, e1, e2, go_sem]) ?_
      refine (sameI_any A1 A2 2 c1 c2 [xb, xa] w hr1 hr2).mono ?_
      rintro r w1 ⟨rfl, hb1⟩
      exact ⟨_, rfl, hb1, rfl⟩
    | 33, ho =>
      have ho2 := Option.some.inj ho; clear ho; subst ho2
      have r66 : a.tmps.getD 66 undef = .bool true := (hk 66 (Flow.mem_looks (by kernel_rfl))).by_ 26 (by kernel_rfl) (by decide)
      have r72 : a.tmps.getD 72 undef = .bool true := (hk 72 (Flow.mem_looks (by kernel_rfl))).by_ 32 (by kernel_rfl) (by decide)
      rw [if_pos (Flow.wanted_free rfl _)]
      refine Flow.step_value (v := .bool true) ?_ ⟨Below.refl _ _, rfl⟩
      simp [execOp, Act.eval, r66, r72, go_sem]
    | 34, ho =>
      have ho2 := Option.some.inj ho; clear ho; subst ho2
      have r73 : a.tmps.getD 73 undef = .bool true := (hk 73 (Flow.mem_looks (by kernel_rfl))).by_ 33 (by kernel_rfl) (by decide)
      rw [if_pos (Flow.wanted_free rfl _)]
      refine Flow.step_value (v := .bool true) ?_ ⟨Below.refl _ _, rfl⟩
      simp [execOp, Act.eval, r73, go_sem]
    | 35, ho =>
      have ho2 := Option.some.inj ho; clear ho; subst ho2
      have r2 : a.tmps.getD 2 undef = .pointer (some ⟨Bb, 0, none⟩) := (hk 2 (Flow.mem_looks (by kernel_rfl))).before (by kernel_rfl)
      have r74 : a.tmps.getD 74 undef = .bool true := (hk 74 (Flow.mem_looks (by kernel_rfl))).by_ 34 (by kernel_rfl) (by decide)
      rw [if_pos (Flow.wanted_by (t := 74) rfl (by kernel_rfl) r74)]
      refine step_load_mid 24 (.tmp 2) rfl Bb 0 r2 xb.cells _ (HB.out.below hw).range Try.underlying24 rfl (item_info xb) ⟨Below.refl _ _, rfl⟩
    | 36, ho =>
      have ho2 := Option.some.inj ho; clear ho; subst ho2
      have r1 : a.tmps.getD 1 undef = .pointer (some ⟨Ba, 0, none⟩) := (hk 1 (Flow.mem_looks (by kernel_rfl))).before (by kernel_rfl)
      have r74 : a.tmps.getD 74 undef = .bool true := (hk 74 (Flow.mem_looks (by kernel_rfl))).by_ 34 (by kernel_rfl) (by decide)
      rw [if_pos (Flow.wanted_by (t := 74) rfl (by kernel_rfl) r74)]
      refine step_load_mid 24 (.tmp 1) rfl Ba 0 r1 xa.cells _ (HA.out.below hw).range Try.underlying24 rfl (item_info xa) ⟨Below.refl _ _, rfl⟩
    | 37, ho =>
      have ho2 := Option.some.inj ho; clear ho; subst ho2
      have r75 : a.tmps.getD 75 undef = .agg xb.cells.toArray := (hk 75 (Flow.mem_looks (by kernel_rfl))).by_ 35 (by kernel_rfl) (by decide)
      have r76 : a.tmps.getD 76 undef = .agg xa.cells.toArray := (hk 76 (Flow.mem_looks (by kernel_rfl))).by_ 36 (by kernel_rfl) (by decide)
      have r74 : a.tmps.getD 74 undef = .bool true := (hk 74 (Flow.mem_looks (by kernel_rfl))).by_ 34 (by kernel_rfl) (by decide)
      rw [if_pos (Flow.wanted_by (t := 74) rfl (by kernel_rfl) r74)]
      refine Flow.step_call (f := 15) (args := #[.agg xb.cells.toArray, .agg xa.cells.toArray]) (by simp [execOp, Act.eval, r75, r76, go_sem]) ?_
      refine (first_any xb xa w).mono ?_
      rintro r w1 ⟨rfl, hb1⟩
      exact ⟨_, rfl, hb1, congrArg Value.bool first_ba⟩
    | 38, ho =>
      have ho2 := Option.some.inj ho; clear ho; subst ho2
      have r74 : a.tmps.getD 74 undef = .bool true := (hk 74 (Flow.mem_looks (by kernel_rfl))).by_ 34 (by kernel_rfl) (by decide)
      have r77 : a.tmps.getD 77 undef = .bool true := (hk 77 (Flow.mem_looks (by kernel_rfl))).by_ 37 (by kernel_rfl) (by decide)
      rw [if_pos (Flow.wanted_free rfl _)]
      refine Flow.step_value (v := .bool true) ?_ ⟨Below.refl _ _, rfl⟩
      simp [execOp, Act.eval, r74, r77, go_sem]
    | 39, ho =>
      have ho2 := Option.some.inj ho; clear ho; subst ho2
      have r78 : a.tmps.getD 78 undef = .bool true := (hk 78 (Flow.mem_looks (by kernel_rfl))).by_ 38 (by kernel_rfl) (by decide)
      rw [if_pos (Flow.wanted_free rfl _)]
      refine Flow.step_value (v := .bool true) ?_ ⟨Below.refl _ _, rfl⟩
      simp [execOp, Act.eval, r78, go_sem]
    | 40, ho =>
      have ho2 := Option.some.inj ho; clear ho; subst ho2
      have r1 : a.tmps.getD 1 undef = .pointer (some ⟨Ba, 0, none⟩) := (hk 1 (Flow.mem_looks (by kernel_rfl))).before (by kernel_rfl)
      have r79 : a.tmps.getD 79 undef = .bool true := (hk 79 (Flow.mem_looks (by kernel_rfl))).by_ 39 (by kernel_rfl) (by decide)
      rw [if_pos (Flow.wanted_by (t := 79) rfl (by kernel_rfl) r79)]
      refine step_load_mid 24 (.tmp 1) rfl Ba 0 r1 xa.cells _ (HA.out.below hw).range Try.underlying24 rfl (item_info xa) ⟨Below.refl _ _, rfl⟩
    | 41, ho =>
      have ho2 := Option.some.inj ho; clear ho; subst ho2
      have r1 : a.tmps.getD 1 undef = .pointer (some ⟨Ba, 0, none⟩) := (hk 1 (Flow.mem_looks (by kernel_rfl))).before (by kernel_rfl)
      have r79 : a.tmps.getD 79 undef = .bool true := (hk 79 (Flow.mem_looks (by kernel_rfl))).by_ 39 (by kernel_rfl) (by decide)
      rw [if_pos (Flow.wanted_by (t := 79) rfl (by kernel_rfl) r79)]
      refine step_load_mid 24 (.tmp 1) rfl Ba 0 r1 xa.cells _ (HA.out.below hw).range Try.underlying24 rfl (item_info xa) ⟨Below.refl _ _, rfl⟩
    | 42, ho =>
      have ho2 := Option.some.inj ho; clear ho; subst ho2
      have r80 : a.tmps.getD 80 undef = .agg xa.cells.toArray := (hk 80 (Flow.mem_looks (by kernel_rfl))).by_ 40 (by kernel_rfl) (by decide)
      have r81 : a.tmps.getD 81 undef = .agg xa.cells.toArray := (hk 81 (Flow.mem_looks (by kernel_rfl))).by_ 41 (by kernel_rfl) (by decide)
      have r79 : a.tmps.getD 79 undef = .bool true := (hk 79 (Flow.mem_looks (by kernel_rfl))).by_ 39 (by kernel_rfl) (by decide)
      rw [if_pos (Flow.wanted_by (t := 79) rfl (by kernel_rfl) r79)]
      refine Flow.step_call (f := 15) (args := #[.agg xa.cells.toArray, .agg xa.cells.toArray]) (by simp [execOp, Act.eval, r80, r81, go_sem]) ?_
      refine (first_any xa xa w).mono ?_
      rintro r w1 ⟨rfl, hb1⟩
      exact ⟨_, rfl, hb1, congrArg Value.bool first_aa⟩
    | 43, ho =>
      have ho2 := Option.some.inj ho; clear ho; subst ho2
      have r82 : a.tmps.getD 82 undef = .bool false := (hk 82 (Flow.mem_looks (by kernel_rfl))).by_ 42 (by kernel_rfl) (by decide)
      have r79 : a.tmps.getD 79 undef = .bool true := (hk 79 (Flow.mem_looks (by kernel_rfl))).by_ 39 (by kernel_rfl) (by decide)
      rw [if_pos (Flow.wanted_by (t := 79) rfl (by kernel_rfl) r79)]
      refine Flow.step_value (v := .bool true) ?_ ⟨Below.refl _ _, rfl⟩
      simp [execOp, Act.eval, r82, go_sem]
    | 44, ho =>
      have ho2 := Option.some.inj ho; clear ho; subst ho2
      have r79 : a.tmps.getD 79 undef = .bool true := (hk 79 (Flow.mem_looks (by kernel_rfl))).by_ 39 (by kernel_rfl) (by decide)
      have r83 : a.tmps.getD 83 undef = .bool true := (hk 83 (Flow.mem_looks (by kernel_rfl))).by_ 43 (by kernel_rfl) (by decide)
      rw [if_pos (Flow.wanted_free rfl _)]
      refine Flow.step_value (v := .bool true) ?_ ⟨Below.refl _ _, rfl⟩
      simp [execOp, Act.eval, r79, r83, go_sem]
    | 45, ho =>
      have ho2 := Option.some.inj ho; clear ho; subst ho2
      have r84 : a.tmps.getD 84 undef = .bool true := (hk 84 (Flow.mem_looks (by kernel_rfl))).by_ 44 (by kernel_rfl) (by decide)
      rw [if_pos (Flow.wanted_free rfl _)]
      refine Flow.step_value (v := .bool true) ?_ ⟨Below.refl _ _, rfl⟩
      simp [execOp, Act.eval, r84, go_sem]
    | 46, ho =>
      have ho2 := Option.some.inj ho; clear ho; subst ho2
      have r1 : a.tmps.getD 1 undef = .pointer (some ⟨Ba, 0, none⟩) := (hk 1 (Flow.mem_looks (by kernel_rfl))).before (by kernel_rfl)
      have r85 : a.tmps.getD 85 undef = .bool true := (hk 85 (Flow.mem_looks (by kernel_rfl))).by_ 45 (by kernel_rfl) (by decide)
      rw [if_pos (Flow.wanted_by (t := 85) rfl (by kernel_rfl) r85)]
      refine step_load_mid 24 (.tmp 1) rfl Ba 0 r1 xa.cells _ (HA.out.below hw).range Try.underlying24 rfl (item_info xa) ⟨Below.refl _ _, rfl⟩
    | 47, ho =>
      have ho2 := Option.some.inj ho; clear ho; subst ho2
      have r86 : a.tmps.getD 86 undef = .agg xa.cells.toArray := (hk 86 (Flow.mem_looks (by kernel_rfl))).by_ 46 (by kernel_rfl) (by decide)
      have r85 : a.tmps.getD 85 undef = .bool true := (hk 85 (Flow.mem_looks (by kernel_rfl))).by_ 45 (by kernel_rfl) (by decide)
      rw [if_pos (Flow.wanted_by (t := 85) rfl (by kernel_rfl) r85)]
      refine Flow.step_call (f := 13) (args := #[.agg xa.cells.toArray]) (by simp [execOp, Act.eval, r86, go_sem]) ?_
      refine (right_any xa w).mono ?_
      rintro r w1 ⟨rfl, hb1⟩
      exact ⟨_, rfl, hb1, congrArg Value.bool right_a⟩
    | 48, ho =>
      have ho2 := Option.some.inj ho; clear ho; subst ho2
      have r85 : a.tmps.getD 85 undef = .bool true := (hk 85 (Flow.mem_looks (by kernel_rfl))).by_ 45 (by kernel_rfl) (by decide)
      have r87 : a.tmps.getD 87 undef = .bool true := (hk 87 (Flow.mem_looks (by kernel_rfl))).by_ 47 (by kernel_rfl) (by decide)
      rw [if_pos (Flow.wanted_free rfl _)]
      refine Flow.step_value (v := .bool true) ?_ ⟨Below.refl _ _, rfl⟩
      simp [execOp, Act.eval, r85, r87, go_sem]
    | 49, ho =>
      have ho2 := Option.some.inj ho; clear ho; subst ho2
      have r88 : a.tmps.getD 88 undef = .bool true := (hk 88 (Flow.mem_looks (by kernel_rfl))).by_ 48 (by kernel_rfl) (by decide)
      rw [if_pos (Flow.wanted_free rfl _)]
      refine Flow.step_value (v := .bool true) ?_ ⟨Below.refl _ _, rfl⟩
      simp [execOp, Act.eval, r88, go_sem]
    | 50, ho =>
      have ho2 := Option.some.inj ho; clear ho; subst ho2
      have r89 : a.tmps.getD 89 undef = .bool true := (hk 89 (Flow.mem_looks (by kernel_rfl))).by_ 49 (by kernel_rfl) (by decide)
      rw [if_pos (Flow.wanted_by (t := 89) rfl (by kernel_rfl) r89)]
      refine Flow.step_value (v := .agg it0.cells.toArray) ?_ ⟨Below.refl _ _, rfl⟩
      simp [execOp, Act.eval, it0, Item.cells, go_sem]
    | 51, ho =>
      have ho2 := Option.some.inj ho; clear ho; subst ho2
      have r90 : a.tmps.getD 90 undef = .agg it0.cells.toArray := (hk 90 (Flow.mem_looks (by kernel_rfl))).by_ 50 (by kernel_rfl) (by decide)
      have r89 : a.tmps.getD 89 undef = .bool true := (hk 89 (Flow.mem_looks (by kernel_rfl))).by_ 49 (by kernel_rfl) (by decide)
      rw [if_pos (Flow.wanted_by (t := 89) rfl (by kernel_rfl) r89)]
      refine Flow.step_call (f := 13) (args := #[.agg it0.cells.toArray]) (by simp [execOp, Act.eval, r90, go_sem]) ?_
      refine (right_any it0 w).mono ?_
      rintro r w1 ⟨rfl, hb1⟩
      exact ⟨_, rfl, hb1, congrArg Value.bool right_0⟩
    | 52, ho =>
      have ho2 := Option.some.inj ho; clear ho; subst ho2
      have r91 : a.tmps.getD 91 undef = .bool false := (hk 91 (Flow.mem_looks (by kernel_rfl))).by_ 51 (by kernel_rfl) (by decide)
      have r89 : a.tmps.getD 89 undef = .bool true := (hk 89 (Flow.mem_looks (by kernel_rfl))).by_ 49 (by kernel_rfl) (by decide)
      rw [if_pos (Flow.wanted_by (t := 89) rfl (by kernel_rfl) r89)]
      refine Flow.step_value (v := .bool true) ?_ ⟨Below.refl _ _, rfl⟩
      simp [execOp, Act.eval, r91, go_sem]
    | 53, ho =>
      have ho2 := Option.some.inj ho; clear ho; subst ho2
      have r89 : a.tmps.getD 89 undef = .bool true := (hk 89 (Flow.mem_looks (by kernel_rfl))).by_ 49 (by kernel_rfl) (by decide)
      have r92 : a.tmps.getD 92 undef = .bool true := (hk 92 (Flow.mem_looks (by kernel_rfl))).by_ 52 (by kernel_rfl) (by decide)
      rw [if_pos (Flow.wanted_free rfl _)]
      refine Flow.step_value (v := .bool true) ?_ ⟨Below.refl _ _, rfl⟩
      simp [execOp, Act.eval, r89, r92, go_sem]
    | 54, ho =>
      have ho2 := Option.some.inj ho; clear ho; subst ho2
      have r93 : a.tmps.getD 93 undef = .bool true := (hk 93 (Flow.mem_looks (by kernel_rfl))).by_ 53 (by kernel_rfl) (by decide)
      rw [if_pos (Flow.wanted_free rfl _)]
      refine Flow.step_value (v := .bool true) ?_ ⟨Below.refl _ _, rfl⟩
      simp [execOp, Act.eval, r93, go_sem]
    | _ + 55, ho => exact absurd ho (by simp)
  case fin =>
    intro a4 w4 hw4 hd4 hs4 hg4 hold
    have r := hg4 54 _ 0 rfl rfl
    refine (‹∀ (a : Act) (w : World), Code.wp _ Code.ret _ a w → _›) _ _ ?_
    refine wp_ret ?_
    refine bodyPost_ret (results_tmp rfl _ _ _) hd4 ⟨congrArg Ending.returned r, below_trans B8.out hw4 B8.out.size⟩
end Go.Proofs.Ytclfbjbbdfejkaa.Ord
