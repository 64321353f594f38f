/- An item's key; which of two is first; may it be so (the document's). -/
import Derived.Test.YtclfbjbbdfejkaaO1
namespace Go.Proofs.Ytclfbjbbdfejkaa.Ord
open Go.RowKit

theorem Rd.lit (w : World) (k : IntKind) (e : TypeId) (l : List Int) (hl : l.length ≤ 9223372036854775807) : Rd (w.alloc (.cells (l.map (Value.int k)).toArray e)) k (some ⟨w.heap.size, 0, none⟩) l.length l.length l :=
  ⟨rfl, Nat.le_refl _, hl, (fun h => by cases h), fun ad e2 _ => by
    cases e2
    refine ⟨_, 0, rfl, fun j hj => ?_⟩
    rw [Nat.zero_add, World.cell?_alloc_at _ _ _ _ rfl, List.getElem?_toArray, List.getElem?_map, List.getElem?_eq_getElem hj, List.getD_eq_getElem?_getD, List.getElem?_eq_getElem hj]
    rfl⟩
def keyL (x : Item) : List Int := [x.cls, x.tick, x.id]
/-- What one is to another. -/
def kc (x y : Item) : Int := cmpL (keyL x) (keyL y)
/-- Is one first? -/
def first (x y : Item) : Bool := decide (kc x y < 0)
def KeyPost (x : Item) (w : World) (e : Ending) (w' : World) : Prop := ∃ A c, e = .returned (.slice A 3 c) ∧ Rd w' .i64 A 3 c (keyL x) ∧ Below w.heap.size w w'
set_option maxHeartbeats 4000000 in
theorem key_any (x : Item) (w : World) : Calls Try.prog 27 #[.agg x.cells.toArray] w (KeyPost x w) := by
  obtain ⟨X, hX⟩ : ∃ X, X = x.cells.toArray := ⟨_, rfl⟩
  rw [← hX]
  have HX := Lib.hid hX
  clear hX
  go_enter Try.func27, Try.ntmps27
  go_upto_region 1 with (fail)
  obtain ⟨W1, hW1⟩ : ∃ W, W = w.alloc (.cells X 24) := ⟨_, rfl⟩
  rw [← hW1]
  have B1 := Lib.hid (show Below w.heap.size w W1 by rw [hW1]; exact (Below.refl _ _).alloc (Nat.le_refl _) _)
  obtain ⟨g, hg⟩ : ∃ b, b = w.heap.size := ⟨_, rfl⟩
  rw [← hg]
  have hat : At W1 g 0 x.cells := by rw [hW1, HX.out, hg]; exact at_alloc 24
  have c0 : W1.cell? ⟨g, 0, none⟩ = some (.int .i64 x.id) := hat 0 (by rw [Item.cells_length]; decide)
  have c1 : W1.cell? ⟨g, 1, none⟩ = some (.int .i64 x.cls) := hat 1 (by rw [Item.cells_length]; decide)
  have c2 : W1.cell? ⟨g, 2, none⟩ = some (.int .i64 x.tick) := hat 2 (by rw [Item.cells_length]; decide)
  clear hat hW1 hg
  go_wp2
  go_ret
  exact ⟨_, _, rfl, Rd.lit W1 .i64 2 (keyL x) (by simp [keyL]), B1.out.alloc B1.out.size _⟩
def G15 (x y : Item) : Nat → Value → World → Prop
  | 0 => fun v _ => v = .agg x.cells.toArray
  | 1 => fun v w => ∃ A c, v = .slice A 3 c ∧ Rd w .i64 A 3 c (keyL x)
  | 2 => fun v _ => v = .agg y.cells.toArray
  | 3 => fun v w => ∃ A c, v = .slice A 3 c ∧ Rd w .i64 A 3 c (keyL y)
  | 4 => fun v _ => v = .int .i64 (kc x y)
  | 5 => fun v _ => v = .bool (first x y)
  | 6 => fun v _ => v = .bool (first x y)
  | _ => fun _ _ => True
theorem G15_stable (x y : Item) : ∀ i v w w', G15 x y i v w → Below w.heap.size w w' → G15 x y i v w' := by
  intro i v w w' h hb
  match i, h with
  | 0, h => exact h
  | 1, h => exact (by obtain ⟨A, c, e, hr⟩ := h; exact ⟨A, c, e, hr.below hb⟩)
  | 2, h => exact h
  | 3, h => exact (by obtain ⟨A, c, e, hr⟩ := h; exact ⟨A, c, e, hr.below hb⟩)
  | 4, h => exact h
  | 5, h => exact h
  | 6, h => exact h
  | _ + 7, _ => exact trivial
def G32 (x y : Item) : Nat → Value → World → Prop
  | 0 => fun v _ => v = .agg x.cells.toArray
  | 1 => fun v w => ∃ A c, v = .slice A 3 c ∧ Rd w .i64 A 3 c (keyL x)
  | 2 => fun v _ => v = .agg y.cells.toArray
  | 3 => fun v w => ∃ A c, v = .slice A 3 c ∧ Rd w .i64 A 3 c (keyL y)
  | 4 => fun v _ => v = .int .i64 (kc x y)
  | 5 => fun v _ => v = .int .i64 (kc x y)
  | _ => fun _ _ => True
theorem G32_stable (x y : Item) : ∀ i v w w', G32 x y i v w → Below w.heap.size w w' → G32 x y i v w' := by
  intro i v w w' h hb
  match i, h with
  | 0, h => exact h
  | 1, h => exact (by obtain ⟨A, c, e, hr⟩ := h; exact ⟨A, c, e, hr.below hb⟩)
  | 2, h => exact h
  | 3, h => exact (by obtain ⟨A, c, e, hr⟩ := h; exact ⟨A, c, e, hr.below hb⟩)
  | 4, h => exact h
  | 5, h => exact h
  | _ + 6, _ => exact trivial
set_option maxHeartbeats 4000000 in
theorem first_any (x y : Item) (w : World) : Calls Try.prog 15 #[.agg x.cells.toArray, .agg y.cells.toArray] w (SayB w (first x y)) := by
  obtain ⟨X, hX⟩ : ∃ X, X = x.cells.toArray := ⟨_, rfl⟩
  obtain ⟨Y, hY⟩ : ∃ Y, Y = y.cells.toArray := ⟨_, rfl⟩
  rw [← hX, ← hY]
  have HX := Lib.hid hX
  have HY := Lib.hid hY
  clear hX hY
  go_enter Try.func15, Try.ntmps15
  go_upto_region 1 with (fail)
  obtain ⟨W1, hW1⟩ : ∃ W, W = (w.alloc (.cells X 24)).alloc (.cells Y 24) := ⟨_, rfl⟩
  rw [← hW1]
  have B1 := Lib.hid (show Below w.heap.size w W1 by rw [hW1]; exact ((Below.refl _ _).alloc (Nat.le_refl _) _).alloc (by simp) _)
  obtain ⟨ga, hga⟩ : ∃ b, b = w.heap.size := ⟨_, rfl⟩
  obtain ⟨gb, hgb⟩ : ∃ b, b = w.heap.size + 1 := ⟨_, rfl⟩
  rw [← hgb, ← hga]
  have HA := Lib.hid (show At W1 ga 0 x.cells from at_item (t := 24) (by rw [hW1, hga, ← HX.out]; exact heap_alloc2_old _ _ _))
  have HB := Lib.hid (show At W1 gb 0 y.cells from at_item (t := 24) (by rw [hW1, hgb, ← HY.out]; exact heap_alloc2_new _ _ _))
  clear hW1 hga hgb
  refine Flow.wp_region_flow (by kernel_rfl) (G15 x y) (by kernel_rfl) (G15_stable x y) ?loc ?fin
  case loc =>
    intro i o ho a w hw hk
    match i, ho with
    | 0, ho =>
      have ho2 := Option.some.inj ho; clear ho; subst ho2
      have r2 : a.tmps.getD 2 undef = .pointer (some ⟨ga, 0, none⟩) := (hk 2 (Flow.mem_looks (by kernel_rfl))).before (by kernel_rfl)
      rw [if_pos (Flow.wanted_free rfl _)]
      refine step_load_mid 24 (.tmp 2) rfl ga 0 r2 x.cells _ (HA.out.below hw).range Try.underlying24 rfl (item_info x) ⟨Below.refl _ _, rfl⟩
    | 1, ho =>
      have ho2 := Option.some.inj ho; clear ho; subst ho2
      have r5 : a.tmps.getD 5 undef = .agg x.cells.toArray := (hk 5 (Flow.mem_looks (by kernel_rfl))).by_ 0 (by kernel_rfl) (by decide)
      rw [if_pos (Flow.wanted_free rfl _)]
      refine Flow.step_call (f := 27) (args := #[.agg x.cells.toArray]) (by simp [execOp, Act.eval, r5, go_sem]) ?_
      refine (key_any x w).mono ?_
      rintro r w1 ⟨A1, c1, rfl, hr1, hb1⟩
      exact ⟨_, rfl, hb1, A1, c1, rfl, hr1⟩
    | 2, ho =>
      have ho2 := Option.some.inj ho; clear ho; subst ho2
      have r3 : a.tmps.getD 3 undef = .pointer (some ⟨gb, 0, none⟩) := (hk 3 (Flow.mem_looks (by kernel_rfl))).before (by kernel_rfl)
      rw [if_pos (Flow.wanted_free rfl _)]
      refine step_load_mid 24 (.tmp 3) rfl gb 0 r3 y.cells _ (HB.out.below hw).range Try.underlying24 rfl (item_info y) ⟨Below.refl _ _, rfl⟩
    | 3, ho =>
      have ho2 := Option.some.inj ho; clear ho; subst ho2
      have r7 : a.tmps.getD 7 undef = .agg y.cells.toArray := (hk 7 (Flow.mem_looks (by kernel_rfl))).by_ 2 (by kernel_rfl) (by decide)
      rw [if_pos (Flow.wanted_free rfl _)]
      refine Flow.step_call (f := 27) (args := #[.agg y.cells.toArray]) (by simp [execOp, Act.eval, r7, go_sem]) ?_
      refine (key_any y w).mono ?_
      rintro r w1 ⟨A1, c1, rfl, hr1, hb1⟩
      exact ⟨_, rfl, hb1, A1, c1, rfl, hr1⟩
    | 4, ho =>
      have ho2 := Option.some.inj ho; clear ho; subst ho2
      have r6 := (hk 6 (Flow.mem_looks (by kernel_rfl))).by_ 1 (by kernel_rfl) (by decide)
      have r8 := (hk 8 (Flow.mem_looks (by kernel_rfl))).by_ 3 (by kernel_rfl) (by decide)
      rw [if_pos (Flow.wanted_free rfl _)]
      obtain ⟨A1, c1, e1, hr1⟩ := r6
      obtain ⟨A2, c2, e2, hr2⟩ := r8
      refine Flow.step_call (f := 26) (args := #[.slice A1 3 c1, .slice A2 3 c2]) (by simp [execOp, Act.eval, e1, e2, go_sem]) ?_
      refine (compare_any A1 3 c1 (keyL x) A2 3 c2 (keyL y) w hr1 hr2).mono ?_
      rintro r w1 ⟨rfl, rfl⟩
      exact ⟨_, rfl, Below.refl _ _, rfl⟩
    | 5, ho =>
      have ho2 := Option.some.inj ho; clear ho; subst ho2
      have r9 : a.tmps.getD 9 undef = .int .i64 (kc x y) := (hk 9 (Flow.mem_looks (by kernel_rfl))).by_ 4 (by kernel_rfl) (by decide)
      rw [if_pos (Flow.wanted_free rfl _)]
      refine Flow.step_value (v := .bool (first x y)) ?_ ⟨Below.refl _ _, rfl⟩
      simp [execOp, Act.eval, r9, first, go_sem]
    | 6, ho =>
      have ho2 := Option.some.inj ho; clear ho; subst ho2
      have r10 : a.tmps.getD 10 undef = .bool (first x y) := (hk 10 (Flow.mem_looks (by kernel_rfl))).by_ 5 (by kernel_rfl) (by decide)
      rw [if_pos (Flow.wanted_free rfl _)]
      refine Flow.step_value (v := .bool (first x y)) ?_ ⟨Below.refl _ _, rfl⟩
      simp [execOp, Act.eval, r10, go_sem]
    | _ + 7, ho => exact absurd ho (by simp)
  case fin =>
    intro a4 w4 hw4 hd4 hs4 hg4 hold
    have r := hg4 6 _ 4 rfl rfl
    refine (‹∀ (a : Act) (w : World), Code.wp _ Code.ret _ a w → _›) _ _ ?_
    refine wp_ret ?_
    refine bodyPost_ret (results_tmp rfl _ _ _) hd4 ⟨congrArg Ending.returned r, below_trans B1.out hw4 B1.out.size⟩
/-- What Sort's comparison tells. -/
def SayI (w : World) (n : Int) (e : Ending) (w' : World) : Prop := e = .returned (.int .i64 n) ∧ Below w.heap.size w w'
set_option maxHeartbeats 4000000 in
theorem cmp_any (x y : Item) (w : World) : Calls Try.prog 32 #[.agg x.cells.toArray, .agg y.cells.toArray] w (SayI w (kc x y)) := by
  obtain ⟨X, hX⟩ : ∃ X, X = x.cells.toArray := ⟨_, rfl⟩
  obtain ⟨Y, hY⟩ : ∃ Y, Y = y.cells.toArray := ⟨_, rfl⟩
  rw [← hX, ← hY]
  have HX := Lib.hid hX
  have HY := Lib.hid hY
  clear hX hY
  go_enter Try.func32, Try.ntmps32
  go_upto_region 1 with (fail)
  obtain ⟨W1, hW1⟩ : ∃ W, W = (w.alloc (.cells X 24)).alloc (.cells Y 24) := ⟨_, rfl⟩
  rw [← hW1]
  have B1 := Lib.hid (show Below w.heap.size w W1 by rw [hW1]; exact ((Below.refl _ _).alloc (Nat.le_refl _) _).alloc (by simp) _)
  obtain ⟨ga, hga⟩ : ∃ b, b = w.heap.size := ⟨_, rfl⟩
  obtain ⟨gb, hgb⟩ : ∃ b, b = w.heap.size + 1 := ⟨_, rfl⟩
  rw [← hgb, ← hga]
  have HA := Lib.hid (show At W1 ga 0 x.cells from at_item (t := 24) (by rw [hW1, hga, ← HX.out]; exact heap_alloc2_old _ _ _))
  have HB := Lib.hid (show At W1 gb 0 y.cells from at_item (t := 24) (by rw [hW1, hgb, ← HY.out]; exact heap_alloc2_new _ _ _))
  clear hW1 hga hgb
  refine Flow.wp_region_flow (by kernel_rfl) (G32 x y) (by kernel_rfl) (G32_stable x y) ?loc ?fin
  case loc =>
    intro i o ho a w hw hk
    match i, ho with
    | 0, ho =>
      have ho2 := Option.some.inj ho; clear ho; subst ho2
      have r2 : a.tmps.getD 2 undef = .pointer (some ⟨ga, 0, none⟩) := (hk 2 (Flow.mem_looks (by kernel_rfl))).before (by kernel_rfl)
      rw [if_pos (Flow.wanted_free rfl _)]
      refine step_load_mid 24 (.tmp 2) rfl ga 0 r2 x.cells _ (HA.out.below hw).range Try.underlying24 rfl (item_info x) ⟨Below.refl _ _, rfl⟩
    | 1, ho =>
      have ho2 := Option.some.inj ho; clear ho; subst ho2
      have r5 : a.tmps.getD 5 undef = .agg x.cells.toArray := (hk 5 (Flow.mem_looks (by kernel_rfl))).by_ 0 (by kernel_rfl) (by decide)
      rw [if_pos (Flow.wanted_free rfl _)]
      refine Flow.step_call (f := 27) (args := #[.agg x.cells.toArray]) (by simp [execOp, Act.eval, r5, go_sem]) ?_
      refine (key_any x w).mono ?_
      rintro r w1 ⟨A1, c1, rfl, hr1, hb1⟩
      exact ⟨_, rfl, hb1, A1, c1, rfl, hr1⟩
    | 2, ho =>
      have ho2 := Option.some.inj ho; clear ho; subst ho2
      have r3 : a.tmps.getD 3 undef = .pointer (some ⟨gb, 0, none⟩) := (hk 3 (Flow.mem_looks (by kernel_rfl))).before (by kernel_rfl)
      rw [if_pos (Flow.wanted_free rfl _)]
      refine step_load_mid 24 (.tmp 3) rfl gb 0 r3 y.cells _ (HB.out.below hw).range Try.underlying24 rfl (item_info y) ⟨Below.refl _ _, rfl⟩
    | 3, ho =>
      have ho2 := Option.some.inj ho; clear ho; subst ho2
      have r7 : a.tmps.getD 7 undef = .agg y.cells.toArray := (hk 7 (Flow.mem_looks (by kernel_rfl))).by_ 2 (by kernel_rfl) (by decide)
      rw [if_pos (Flow.wanted_free rfl _)]
      refine Flow.step_call (f := 27) (args := #[.agg y.cells.toArray]) (by simp [execOp, Act.eval, r7, go_sem]) ?_
      refine (key_any y w).mono ?_
      rintro r w1 ⟨A1, c1, rfl, hr1, hb1⟩
      exact ⟨_, rfl, hb1, A1, c1, rfl, hr1⟩
    | 4, ho =>
      have ho2 := Option.some.inj ho; clear ho; subst ho2
      have r6 := (hk 6 (Flow.mem_looks (by kernel_rfl))).by_ 1 (by kernel_rfl) (by decide)
      have r8 := (hk 8 (Flow.mem_looks (by kernel_rfl))).by_ 3 (by kernel_rfl) (by decide)
      rw [if_pos (Flow.wanted_free rfl _)]
      obtain ⟨A1, c1, e1, hr1⟩ := r6
      obtain ⟨A2, c2, e2, hr2⟩ := r8
      refine Flow.step_call (f := 26) (args := #[.slice A1 3 c1, .slice A2 3 c2]) (by simp [execOp, Act.eval, e1, e2, go_sem]) ?_
      refine (compare_any A1 3 c1 (keyL x) A2 3 c2 (keyL y) w hr1 hr2).mono ?_
      rintro r w1 ⟨rfl, rfl⟩
      exact ⟨_, rfl, Below.refl _ _, rfl⟩
    | 5, ho =>
      have ho2 := Option.some.inj ho; clear ho; subst ho2
      have r9 : a.tmps.getD 9 undef = .int .i64 (kc x y) := (hk 9 (Flow.mem_looks (by kernel_rfl))).by_ 4 (by kernel_rfl) (by decide)
      rw [if_pos (Flow.wanted_free rfl _)]
      refine Flow.step_value (v := .int .i64 (kc x y)) ?_ ⟨Below.refl _ _, rfl⟩
      simp [execOp, Act.eval, r9, go_sem]
    | _ + 6, ho => exact absurd ho (by simp)
  case fin =>
    intro a4 w4 hw4 hd4 hs4 hg4 hold
    have r := hg4 5 _ 4 rfl rfl
    refine (‹∀ (a : Act) (w : World), Code.wp _ Code.ret _ a w → _›) _ _ ?_
    refine wp_ret ?_
    refine bodyPost_ret (results_tmp rfl _ _ _) hd4 ⟨congrArg Ending.returned r, below_trans B1.out hw4 B1.out.size⟩
/-- As the document says it. -/
theorem first_eq (x y : Item) : first x y = if x.cls = y.cls then (if x.tick = y.tick then decide (x.id < y.id) else decide (x.tick < y.tick)) else decide (x.cls < y.cls) := by
  have e : kc x y = if x.cls < y.cls then -1 else if y.cls < x.cls then 1 else if x.tick < y.tick then -1 else if y.tick < x.tick then 1 else if x.id < y.id then -1 else if y.id < x.id then 1 else 0 := rfl
  unfold first
  rw [e, Bool.eq_iff_iff]
  repeat' split
  all_goals simp only [decide_eq_true_eq]
  all_goals omega
set_option maxHeartbeats 4000000 in
theorem reffirst_any (x y : Item) (w : World) : Calls Try.prog 16 #[.agg x.cells.toArray, .agg y.cells.toArray] w (SayB w (first x y)) := by
  have HF := Lib.hid (first_eq x y)
  obtain ⟨X, hX⟩ : ∃ X, X = x.cells.toArray := ⟨_, rfl⟩
  obtain ⟨Y, hY⟩ : ∃ Y, Y = y.cells.toArray := ⟨_, rfl⟩
  rw [← hX, ← hY]
  have HX := Lib.hid hX
  have HY := Lib.hid hY
  clear hX hY
  go_enter Try.func16, Try.ntmps16
  go_upto_region 1 with (fail)
  obtain ⟨W1, hW1⟩ : ∃ W, W = (w.alloc (.cells X 24)).alloc (.cells Y 24) := ⟨_, rfl⟩
  rw [← hW1]
  have B1 := Lib.hid (show Below w.heap.size w W1 by rw [hW1]; exact ((Below.refl _ _).alloc (Nat.le_refl _) _).alloc (by simp) _)
  obtain ⟨ga, hga⟩ : ∃ b, b = w.heap.size := ⟨_, rfl⟩
  obtain ⟨gb, hgb⟩ : ∃ b, b = w.heap.size + 1 := ⟨_, rfl⟩
  rw [← hgb, ← hga]
  have HA := Lib.hid (show At W1 ga 0 x.cells from at_item (t := 24) (by rw [hW1, hga, ← HX.out]; exact heap_alloc2_old _ _ _))
  have HB := Lib.hid (show At W1 gb 0 y.cells from at_item (t := 24) (by rw [hW1, hgb, ← HY.out]; exact heap_alloc2_new _ _ _))
  clear hW1 hga hgb
  have ha := HA.out
  have hb := HB.out
  have a0 : W1.cell? ⟨ga, 0, none⟩ = some (.int .i64 x.id) := ha 0 (by rw [Item.cells_length]; decide)
  have a1 : W1.cell? ⟨ga, 1, none⟩ = some (.int .i64 x.cls) := ha 1 (by rw [Item.cells_length]; decide)
  have a2 : W1.cell? ⟨ga, 2, none⟩ = some (.int .i64 x.tick) := ha 2 (by rw [Item.cells_length]; decide)
  have b0 : W1.cell? ⟨gb, 0, none⟩ = some (.int .i64 y.id) := hb 0 (by rw [Item.cells_length]; decide)
  have b1 : W1.cell? ⟨gb, 1, none⟩ = some (.int .i64 y.cls) := hb 1 (by rw [Item.cells_length]; decide)
  have b2 : W1.cell? ⟨gb, 2, none⟩ = some (.int .i64 y.tick) := hb 2 (by rw [Item.cells_length]; decide)
  clear ha hb
  by_cases h1 : x.cls = y.cls
  · have d1 : (x.cls != y.cls) = false := by simpa using h1
    rw [if_pos h1] at HF
    clear h1
    by_cases h2 : x.tick = y.tick
    · have d2 : (x.tick != y.tick) = false := by simpa using h2
      rw [if_pos h2] at HF
      clear h2
      go_wp2
      go_ret
      exact ⟨by rw [HF.out]; rfl, B1.out⟩
    · have d2 : (x.tick != y.tick) = true := by simpa using h2
      rw [if_neg h2] at HF
      clear h2
      go_wp2
      go_ret
      exact ⟨by rw [HF.out]; rfl, B1.out⟩
  · have d1 : (x.cls != y.cls) = true := by simpa using h1
    rw [if_neg h1] at HF
    clear h1
    go_wp2
    go_ret
    exact ⟨by rw [HF.out]; rfl, B1.out⟩
set_option maxRecDepth 100000 in
set_option maxHeartbeats 4000000 in
theorem refright_any (x : Item) (w : World) : Calls Try.prog 14 #[.agg x.cells.toArray] w (SayB w (right x)) := by
  obtain ⟨X, hX⟩ : ∃ X, X = x.cells.toArray := ⟨_, rfl⟩
  rw [← hX]
  have HX := Lib.hid hX
  clear hX
  obtain ⟨p0, h0⟩ : ∃ p, p = decide (1 ≤ x.id) := ⟨_, rfl⟩
  obtain ⟨p1, h1⟩ : ∃ p, p = decide (x.id ≤ 281474976710656) := ⟨_, rfl⟩
  obtain ⟨p2, h2⟩ : ∃ p, p = decide (0 ≤ x.cls) := ⟨_, rfl⟩
  obtain ⟨p3, h3⟩ : ∃ p, p = decide (x.cls ≤ 7) := ⟨_, rfl⟩
  obtain ⟨p4, h4⟩ : ∃ p, p = decide (0 ≤ x.tick) := ⟨_, rfl⟩
  obtain ⟨p5, h5⟩ : ∃ p, p = decide (x.tick ≤ 281474976710656) := ⟨_, rfl⟩
  obtain ⟨p6, h6⟩ : ∃ p, p = decide (0 ≤ x.cost) := ⟨_, rfl⟩
  obtain ⟨p7, h7⟩ : ∃ p, p = decide (x.cost ≤ 1048576) := ⟨_, rfl⟩
  have HW : Hid (right x = ((p0 && p1) && ((p2 && p3) && ((p4 && p5) && (p6 && p7))))) := Lib.hid (by rw [h0, h1, h2, h3, h4, h5, h6, h7]; rfl)
  replace h0 := h0.symm
  replace h1 := h1.symm
  replace h2 := h2.symm
  replace h3 := h3.symm
  replace h4 := h4.symm
  replace h5 := h5.symm
  replace h6 := h6.symm
  replace h7 := h7.symm
  go_enter Try.func14, Try.ntmps14
  go_upto_region 1 with (fail)
  obtain ⟨W1, hW1⟩ : ∃ W, W = w.alloc (.cells X 24) := ⟨_, rfl⟩
  rw [← hW1]
  have B1 := Lib.hid (show Below w.heap.size w W1 by rw [hW1]; exact (Below.refl _ _).alloc (Nat.le_refl _) _)
  obtain ⟨g, hg⟩ : ∃ b, b = w.heap.size := ⟨_, rfl⟩
  rw [← hg]
  have hat : At W1 g 0 x.cells := by rw [hW1, HX.out, hg]; exact at_alloc 24
  have c0 : W1.cell? ⟨g, 0, none⟩ = some (.int .i64 x.id) := hat 0 (by rw [Item.cells_length]; decide)
  have c1 : W1.cell? ⟨g, 1, none⟩ = some (.int .i64 x.cls) := hat 1 (by rw [Item.cells_length]; decide)
  have c2 : W1.cell? ⟨g, 2, none⟩ = some (.int .i64 x.tick) := hat 2 (by rw [Item.cells_length]; decide)
  have c3 : W1.cell? ⟨g, 3, none⟩ = some (.int .i64 x.cost) := hat 3 (by rw [Item.cells_length]; decide)
  clear hat hW1 hg
  cases p0 with
  | false =>
    go_wp2
    go_ret
    exact ⟨by rw [HW.out]; rfl, B1.out⟩
  | true =>
    cases p1 with
    | false =>
      go_wp2
      go_ret
      exact ⟨by rw [HW.out]; rfl, B1.out⟩
    | true =>
      cases p2 with
      | false =>
        go_wp2
        go_ret
        exact ⟨by rw [HW.out]; rfl, B1.out⟩
      | true =>
        cases p3 with
        | false =>
          go_wp2
          go_ret
          exact ⟨by rw [HW.out]; rfl, B1.out⟩
        | true =>
          cases p4 with
          | false =>
            go_wp2
            go_ret
            exact ⟨by rw [HW.out]; rfl, B1.out⟩
          | true =>
            cases p5 with
            | false =>
              go_wp2
              go_ret
              exact ⟨by rw [HW.out]; rfl, B1.out⟩
            | true =>
              cases p6 with
              | false =>
                go_wp2
                go_ret
                exact ⟨by rw [HW.out]; rfl, B1.out⟩
              | true =>
                cases p7 with
                | false =>
                  go_wp2
                  go_ret
                  exact ⟨by rw [HW.out]; rfl, B1.out⟩
                | true =>
                  go_wp2
                  go_ret
                  exact ⟨by rw [HW.out]; rfl, B1.out⟩
end Go.Proofs.Ytclfbjbbdfejkaa.Ord
