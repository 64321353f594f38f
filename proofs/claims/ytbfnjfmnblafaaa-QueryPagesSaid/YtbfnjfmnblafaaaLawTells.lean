/- QueryTells. -/
import Derived.Test.YtbfnjfmnblafaaaQ18
namespace Go.Proofs.Ytbfnjfmnblafaaa.Qry
open Go.RowKit

theorem at_ent {w : World} {g : Nat} {e : Ent} {t : TypeId} (h : w.heap[g]? = some (.cells e.cells.toArray t (0, 0))) : At w g 0 e.cells := fun j hj => by simp [World.cell?, h, hj]
theorem ents1 (w : World) (x : Ent) (hx : SRd w x.sA x.sn x.sc x.ss) : Ents (w.alloc (.cells x.cells.toArray 29)) (some ⟨w.heap.size, 0, none⟩) 1 1 [x] := by
  have hb : Below w.heap.size w (w.alloc (.cells x.cells.toArray 29)) := (Below.refl _ _).alloc (Nat.le_refl _) _
  refine ⟨rfl, Nat.le_refl _, by decide, fun e => (by cases e), fun ad e _ => ?_, fun e he => ?_⟩
  · cases e
    refine ⟨_, 0, rfl, fun j hj => ?_⟩
    obtain rfl : j = 0 := by simp at hj; omega
    exact at_alloc 29
  · obtain rfl := List.mem_singleton.1 he
    exact hx.below hb
def G3 (_Be _Ba _Bx _By : Nat) (A : Option Addr) (nl cl : Nat) (L : List Ent) (e : Ent) (ak : Ask) : Nat → Value → World → Prop
  | 0 => fun v _ => v = .bool true
  | 1 => fun v _ => v = .bool true
  | 2 => fun v _ => v = .agg e.cells.toArray
  | 3 => fun v _ => v = .agg ak.cells.toArray
  | 4 => fun v _ => v = .bool (fits e ak)
  | 5 => fun v _ => v = .agg e.cells.toArray
  | 6 => fun v _ => v = .agg ak.cells.toArray
  | 7 => fun v _ => v = .bool (fits e ak)
  | 8 => fun v _ => v = .bool true
  | 9 => fun v _ => v = .bool true
  | 10 => fun v _ => v = .bool true
  | 11 => fun v _ => v = .slice A nl cl
  | 12 => fun v _ => v = .agg ak.cells.toArray
  | 13 => fun v w => ∃ A c, v = .slice A (run ak L).length c ∧ Rd w .i64 A (run ak L).length c (run ak L)
  | 14 => fun v _ => v = .slice A nl cl
  | 15 => fun v _ => v = .agg ak.cells.toArray
  | 16 => fun v w => ∃ A c, v = .slice A (run ak L).length c ∧ Rd w .i64 A (run ak L).length c (run ak L)
  | 17 => fun v _ => v = .bool true
  | 18 => fun v _ => v = .bool true
  | 19 => fun v _ => v = .bool true
  | 20 => fun v _ => v = .agg (next ak L).1.cells.toArray
  | 21 => fun v _ => v = .agg (next ak L).1.cells.toArray
  | 22 => fun v _ => v = .bool true
  | 23 => fun v _ => v = .bool true
  | 24 => fun v _ => v = .bool true
  | 25 => fun v _ => v = .bool (next ak L).2
  | 26 => fun v _ => v = .bool (next ak L).2
  | 27 => fun v _ => v = .bool true
  | 28 => fun v _ => v = .bool true
  | 29 => fun v _ => v = .bool true
  | _ => fun _ _ => True
theorem G3_stable (Be Ba Bx By : Nat) (A : Option Addr) (nl cl : Nat) (L : List Ent) (e : Ent) (ak : Ask) : ∀ i v w w', G3 Be Ba Bx By A nl cl L e ak i v w → Below w.heap.size w w' → G3 Be Ba Bx By A nl cl L e ak i v w' := by
  intro i v w w' h hb
  match i, h with
  | 0, h => exact h
  | 1, h => exact h
  | 2, h => exact h
  | 3, h => exact h
  | 4, h => exact h
  | 5, h => exact h
  | 6, h => exact h
  | 7, h => exact h
  | 8, h => exact h
  | 9, h => exact h
  | 10, h => exact h
  | 11, h => exact h
  | 12, h => exact h
  | 13, h => exact (by obtain ⟨A, c, e, hr⟩ := h; exact ⟨A, c, e, hr.below hb⟩)
  | 14, h => exact h
  | 15, h => exact h
  | 16, h => exact (by obtain ⟨A, c, e, hr⟩ := h; exact ⟨A, c, e, hr.below hb⟩)
  | 17, h => exact h
  | 18, h => exact h
  | 19, h => exact h
  | 20, h => exact h
  | 21, h => exact h
  | 22, h => exact h
  | 23, h => exact h
  | 24, h => exact h
  | 25, h => exact h
  | 26, h => exact h
  | 27, h => exact h
  | 28, h => exact h
  | 29, h => exact h
  | _ + 30, _ => exact trivial
set_option maxRecDepth 100000 in
set_option maxHeartbeats 8000000 in
theorem QueryTells_walk (A : Option Addr) (nl cl : Nat) (L : List Ent) (e : Ent) (ak : Ask) (w : World) (hE : Ents w A nl cl L) (hR : SRd w e.sA e.sn e.sc e.ss) :
    Calls Try.prog 3 #[.slice A nl cl, .agg e.cells.toArray, .agg ak.cells.toArray] w (SayB w true) := by
  obtain ⟨X, hX⟩ : ∃ X, X = e.cells.toArray := ⟨_, rfl⟩
  obtain ⟨Y, hY⟩ : ∃ Y, Y = ak.cells.toArray := ⟨_, rfl⟩
  rw [← hX, ← hY]
  have HX0 := Lib.hid hX
  have HY0 := Lib.hid hY
  have HE0 := Lib.hid hE
  have HR0 := Lib.hid hR
  have HXi := Lib.hid (show (Try.prog.info? 29).map (·.size) = some X.size by rw [hX]; kernel_rfl)
  have HYi := Lib.hid (show (Try.prog.info? 31).map (·.size) = some Y.size by rw [hY]; kernel_rfl)
  have HB0 := Lib.hid (Below.refl w.heap.size w)
  have HZI := Lib.hid (show (Try.prog.info? 31).map (·.size) = some 7 by kernel_rfl)
  have HX1 := Lib.hid (show (next ak L).1.cells.toArray.all (·.oneCell') = true by rw [List.all_toArray, List.all_eq_true]; exact ask_one _)
  clear hX hY hE hR
  go_enter Try.func3, Try.ntmps3
  go_upto_region 1 with (fail)
  obtain ⟨W2, hW2⟩ : ∃ W, W = (w.alloc (.cells X 29)).alloc (.cells Y 31) := ⟨_, rfl⟩
  rw [← hW2]
  have eW2 : Below w.heap.size w W2 := by rw [hW2]; exact ((Below.refl _ _).alloc (Nat.le_refl _) _).alloc (by simp) _
  obtain ⟨Be, hBe⟩ : ∃ b, b = w.heap.size := ⟨_, rfl⟩
  obtain ⟨Ba, hBa⟩ : ∃ b, b = w.heap.size + 1 := ⟨_, rfl⟩
  rw [← hBa, ← hBe]
  have HBe2 := Lib.hid (show W2.heap[Be]? = some (.cells X 29 (0, 0)) by rw [hW2, hBe]; exact heap_alloc2_old _ _ _)
  have HBa := Lib.hid (show W2.heap[Ba]? = some (.cells Y 31 (0, 0)) by rw [hW2, hBa]; exact heap_alloc2_new _ _ _)
  have BW2 := Lib.hid (below_trans HB0.out eW2 HB0.out.size)
  have HL2 := Lib.hid (HE0.out.below BW2.out)
  have HR2 := Lib.hid (HR0.out.below BW2.out)
  clear hW2 eW2 hBe hBa
  go_wp2_with fail
  refine (head_any W2).mono ?_
  rintro r W3 ⟨rfl, hb3⟩
  have HBe3 := Lib.hid (blk_below HBe2.out hb3)
  have HBa3 := Lib.hid (blk_below HBa.out hb3)
  have HL3 := Lib.hid (HL2.out.below hb3)
  have HR3 := Lib.hid (HR2.out.below hb3)
  have B3 := Lib.hid (below_trans BW2.out hb3 BW2.out.size)
  clear hb3
  go_wp2_with fail
  refine (great_any A nl cl L W3 HL3.out).mono ?_
  rintro r w4 ⟨⟨t1, rfl, hf1⟩, rfl⟩
  have HF1 := Lib.hid hf1
  clear hf1
  have hcs : W3.cell? ⟨Ba, 0, none⟩ = some (.string ak.serv) := by have h := HBa3.out; rw [HY0.out] at h; simp [World.cell?, h, Ask.cells]
  have hse := HX0.out
  cases t1 with
  | true =>
    clear hse
    go_wp2
    go_ret
    exact ⟨rfl, B3.out⟩
  | false =>
    clear hse
    have hnl := (HF1.out rfl).1
    have HENT : Hid (Ents (W3.alloc (.cells X 29)) (some ⟨W3.heap.size, 0, none⟩) 1 1 [e]) := Lib.hid (by rw [HX0.out]; exact ents1 W3 e HR3.out)
    go_wp2_with (first | (refine unguard (o := ⟨some 16, _, _, _, _, _⟩) rfl ?_; refine wpList_load_row rfl 29 (.tmp 4) rfl Be rfl 29 X (0, 0) _ HBe3.out Try.underlying29 rfl HXi.out ?_) | (refine unguard (o := ⟨some 17, _, _, _, _, _⟩) rfl ?_; refine wpList_build1 rfl 16 rfl e (by rw [← HX0.out]; rfl) ?_; rw [← HX0.out]))
    refine (great_any _ 1 1 [e] (W3.alloc (.cells X 29)) HENT.out).mono ?_
    rintro r w4 ⟨⟨t2, rfl, hf2⟩, rfl⟩
    clear hf2
    obtain ⟨W4, hW4⟩ : ∃ W, W = W3.alloc (.cells X 29) := ⟨_, rfl⟩
    rw [← hW4]
    have eW4 : Below W3.heap.size W3 W4 := by rw [hW4]; exact (Below.refl _ _).alloc (Nat.le_refl _) _
    obtain ⟨Bg, hBg⟩ : ∃ b, b = W3.heap.size := ⟨_, rfl⟩
    rw [← hBg]
    have HBg := Lib.hid (show W4.heap[Bg]? = some (.cells X 29 (0, 0)) by rw [hW4, hBg]; exact heap_alloc_new _ _)
    have BW4 := Lib.hid (below_trans B3.out eW4 B3.out.size)
    have HBe4 := Lib.hid (blk_below HBe3.out eW4)
    have HBa4 := Lib.hid (blk_below HBa3.out eW4)
    have HL4 := Lib.hid (HL3.out.below eW4)
    have HR4 := Lib.hid (HR3.out.below eW4)
    have hcs4 : W4.cell? ⟨Ba, 0, none⟩ = some (.string ak.serv) := (eW4.cell (World.block_lt_of_cell? W3 _ hcs)).trans hcs
    clear hcs hW4 eW4 hBg
    cases t2 with
    | true =>
      go_wp2
      go_ret
      exact ⟨rfl, BW4.out⟩
    | false =>
      by_cases h9 : 900 < (ak.serv.size : Int)
      · have hd9 : decide (900 < (ak.serv.size : Int)) = true := decide_eq_true h9
        go_wp2
        go_ret
        exact ⟨rfl, BW4.out⟩
      have hd9 : decide (900 < (ak.serv.size : Int)) = false := decide_eq_false h9
      go_upto_region 4 with fail
      clear hcs4 hd9
      rw [HY0.out] at HBa4 HYi
      go_wp2_with (refine wpList_load_row rfl 31 (.tmp 5) rfl Ba rfl 31 ak.cells.toArray (0, 0) _ HBa4.out Try.underlying31 rfl HYi.out ?_)
      refine (next_any' A nl cl L ak W4 HL4.out).mono ?_
      rintro r W5 ⟨rfl, hb5⟩
      have HBe5 := Lib.hid (blk_below HBe4.out hb5)
      have HBa5 := Lib.hid (blk_below HBa4.out hb5)
      have HL5 := Lib.hid (HL4.out.below hb5)
      have HR5 := Lib.hid (HR4.out.below hb5)
      have B5 := Lib.hid (below_trans BW4.out hb5 BW4.out.size)
      clear hb5
      go_upto_region 5 with (refine wpList_store_row rfl 31 (.tmp 8) (.tmp 31) rfl W5.heap.size (next ak L).1.cells.toArray rfl rfl 31 _ (heap_alloc_new _ _) HZI.out rfl HX1.out ?_; rw [World.setRow_alloc_new])
      obtain ⟨W6, hW6⟩ : ∃ W, W = W5.alloc (.cells (next ak L).1.cells.toArray 31) := ⟨_, rfl⟩
      rw [← hW6]
      have eW6 : Below W5.heap.size W5 W6 := by rw [hW6]; exact (Below.refl _ _).alloc (Nat.le_refl _) _
      obtain ⟨Bx, hBx⟩ : ∃ b, b = W5.heap.size := ⟨_, rfl⟩
      rw [← hBx]
      have HBx := Lib.hid (show W6.heap[Bx]? = some (.cells (next ak L).1.cells.toArray 31 (0, 0)) by rw [hW6, hBx]; exact heap_alloc_new _ _)
      have BW6 := Lib.hid (below_trans B5.out eW6 B5.out.size)
      have HBe6 := Lib.hid (blk_below HBe5.out eW6)
      have HBa6 := Lib.hid (blk_below HBa5.out eW6)
      have HL6 := Lib.hid (HL5.out.below eW6)
      have HR6 := Lib.hid (HR5.out.below eW6)
      clear eW6 hW6 hBx
      go_wp2_with (refine wpList_load_row rfl 31 (.tmp 5) rfl Ba rfl 31 ak.cells.toArray (0, 0) _ HBa6.out Try.underlying31 rfl HYi.out ?_)
      refine (refnext_any A nl cl L ak W6 HL6.out (by omega)).mono ?_
      rintro r W7 ⟨rfl, hb7⟩
      have HBe7 := Lib.hid (blk_below HBe6.out hb7)
      have HBa7 := Lib.hid (blk_below HBa6.out hb7)
      have HBx7 := Lib.hid (blk_below HBx.out hb7)
      have HL7 := Lib.hid (HL6.out.below hb7)
      have HR7 := Lib.hid (HR6.out.below hb7)
      have B7 := Lib.hid (below_trans BW6.out hb7 BW6.out.size)
      clear hb7
      go_upto_region 6 with (refine wpList_store_row rfl 31 (.tmp 10) (.tmp 37) rfl W7.heap.size (next ak L).1.cells.toArray rfl rfl 31 _ (heap_alloc_new _ _) HZI.out rfl HX1.out ?_; rw [World.setRow_alloc_new])
      obtain ⟨W8, hW8⟩ : ∃ W, W = W7.alloc (.cells (next ak L).1.cells.toArray 31) := ⟨_, rfl⟩
      rw [← hW8]
      have eW8 : Below W7.heap.size W7 W8 := by rw [hW8]; exact (Below.refl _ _).alloc (Nat.le_refl _) _
      obtain ⟨By, hBy⟩ : ∃ b, b = W7.heap.size := ⟨_, rfl⟩
      rw [← hBy]
      have HBy := Lib.hid (show W8.heap[By]? = some (.cells (next ak L).1.cells.toArray 31 (0, 0)) by rw [hW8, hBy]; exact heap_alloc_new _ _)
      have BW8 := Lib.hid (below_trans B7.out eW8 B7.out.size)
      have hbe := blk_below HBe7.out eW8
      rw [HX0.out] at hbe
      have HE := Lib.hid (at_ent hbe)
      have HA := Lib.hid (at_blk (blk_below HBa7.out eW8))
      have HX := Lib.hid (at_blk (blk_below HBx7.out eW8))
      have HY := Lib.hid (at_blk HBy.out)
      have HL := Lib.hid (HL7.out.below eW8)
      have HR := Lib.hid (HR7.out.below eW8)
      clear eW8 hW8 hBy hbe
      refine Flow.wp_region_flow (by kernel_rfl) (G3 Be Ba Bx By A nl cl L e ak) (by kernel_rfl) (G3_stable Be Ba Bx By A nl cl L e ak) ?loc ?fin
      case loc =>
        intro i o ho a w hw hk
        match i, ho with
        | 0, ho =>
          have ho2 := Option.some.inj ho; clear ho; subst ho2
          have r7 : a.tmps.getD 7 undef = .bool true := (hk 7 (Flow.mem_looks (by kernel_rfl))).before (by kernel_rfl)
          rw [if_pos (Flow.wanted_free rfl _)]
          refine Flow.step_value (v := .bool true) ?_ ⟨Below.refl _ _, rfl⟩
          simp [execOp, Act.eval, r7, go_sem]
        | 1, ho =>
          have ho2 := Option.some.inj ho; clear ho; subst ho2
          have r39 : a.tmps.getD 39 undef = .bool true := (hk 39 (Flow.mem_looks (by kernel_rfl))).by_ 0 (by kernel_rfl) (by decide)
          rw [if_pos (Flow.wanted_free rfl _)]
          refine Flow.step_value (v := .bool true) ?_ ⟨Below.refl _ _, rfl⟩
          simp [execOp, Act.eval, r39, go_sem]
        | 2, ho =>
          have ho2 := Option.some.inj ho; clear ho; subst ho2
          have r4 : a.tmps.getD 4 undef = .pointer (some ⟨Be, 0, none⟩) := (hk 4 (Flow.mem_looks (by kernel_rfl))).before (by kernel_rfl)
          have r40 : a.tmps.getD 40 undef = .bool true := (hk 40 (Flow.mem_looks (by kernel_rfl))).by_ 1 (by kernel_rfl) (by decide)
          rw [if_pos (Flow.wanted_by (t := 40) rfl (by kernel_rfl) r40)]
          refine step_load_mid 29 (.tmp 4) rfl Be 0 r4 e.cells _ (HE.out.below hw).range Try.underlying29 rfl (ent_info e) ⟨Below.refl _ _, rfl⟩
        | 3, ho =>
          have ho2 := Option.some.inj ho; clear ho; subst ho2
          have r5 : a.tmps.getD 5 undef = .pointer (some ⟨Ba, 0, none⟩) := (hk 5 (Flow.mem_looks (by kernel_rfl))).before (by kernel_rfl)
          have r40 : a.tmps.getD 40 undef = .bool true := (hk 40 (Flow.mem_looks (by kernel_rfl))).by_ 1 (by kernel_rfl) (by decide)
          rw [if_pos (Flow.wanted_by (t := 40) rfl (by kernel_rfl) r40)]
          refine step_load_mid 31 (.tmp 5) rfl Ba 0 r5 ak.cells _ (HA.out.below hw).range Try.underlying31 rfl (ask_info ak) ⟨Below.refl _ _, rfl⟩
        | 4, ho =>
          have ho2 := Option.some.inj ho; clear ho; subst ho2
          have r41 : a.tmps.getD 41 undef = .agg e.cells.toArray := (hk 41 (Flow.mem_looks (by kernel_rfl))).by_ 2 (by kernel_rfl) (by decide)
          have r42 : a.tmps.getD 42 undef = .agg ak.cells.toArray := (hk 42 (Flow.mem_looks (by kernel_rfl))).by_ 3 (by kernel_rfl) (by decide)
          have r40 : a.tmps.getD 40 undef = .bool true := (hk 40 (Flow.mem_looks (by kernel_rfl))).by_ 1 (by kernel_rfl) (by decide)
          rw [if_pos (Flow.wanted_by (t := 40) rfl (by kernel_rfl) r40)]
          refine Flow.step_call (f := 13) (args := #[.agg e.cells.toArray, .agg ak.cells.toArray]) (by simp [execOp, Act.eval, r41, r42, go_sem]) ?_
          refine (fits_any e ak w (HR.out.below hw)).mono ?_
          rintro r w1 ⟨rfl, hb1⟩
          exact ⟨_, rfl, hb1, rfl⟩
        | 5, ho =>
          have ho2 := Option.some.inj ho; clear ho; subst ho2
          have r4 : a.tmps.getD 4 undef = .pointer (some ⟨Be, 0, none⟩) := (hk 4 (Flow.mem_looks (by kernel_rfl))).before (by kernel_rfl)
          have r40 : a.tmps.getD 40 undef = .bool true := (hk 40 (Flow.mem_looks (by kernel_rfl))).by_ 1 (by kernel_rfl) (by decide)
          rw [if_pos (Flow.wanted_by (t := 40) rfl (by kernel_rfl) r40)]
          refine step_load_mid 29 (.tmp 4) rfl Be 0 r4 e.cells _ (HE.out.below hw).range Try.underlying29 rfl (ent_info e) ⟨Below.refl _ _, rfl⟩
        | 6, ho =>
          have ho2 := Option.some.inj ho; clear ho; subst ho2
          have r5 : a.tmps.getD 5 undef = .pointer (some ⟨Ba, 0, none⟩) := (hk 5 (Flow.mem_looks (by kernel_rfl))).before (by kernel_rfl)
          have r40 : a.tmps.getD 40 undef = .bool true := (hk 40 (Flow.mem_looks (by kernel_rfl))).by_ 1 (by kernel_rfl) (by decide)
          rw [if_pos (Flow.wanted_by (t := 40) rfl (by kernel_rfl) r40)]
          refine step_load_mid 31 (.tmp 5) rfl Ba 0 r5 ak.cells _ (HA.out.below hw).range Try.underlying31 rfl (ask_info ak) ⟨Below.refl _ _, rfl⟩
        | 7, ho =>
          have ho2 := Option.some.inj ho; clear ho; subst ho2
          have r44 : a.tmps.getD 44 undef = .agg e.cells.toArray := (hk 44 (Flow.mem_looks (by kernel_rfl))).by_ 5 (by kernel_rfl) (by decide)
          have r45 : a.tmps.getD 45 undef = .agg ak.cells.toArray := (hk 45 (Flow.mem_looks (by kernel_rfl))).by_ 6 (by kernel_rfl) (by decide)
          have r40 : a.tmps.getD 40 undef = .bool true := (hk 40 (Flow.mem_looks (by kernel_rfl))).by_ 1 (by kernel_rfl) (by decide)
          rw [if_pos (Flow.wanted_by (t := 40) rfl (by kernel_rfl) r40)]
          refine Flow.step_call (f := 14) (args := #[.agg e.cells.toArray, .agg ak.cells.toArray]) (by simp [execOp, Act.eval, r44, r45, go_sem]) ?_
          refine (reffits_any e ak w (HR.out.below hw)).mono ?_
          rintro r w1 ⟨rfl, hb1⟩
          exact ⟨_, rfl, hb1, rfl⟩
        | 8, ho =>
          have ho2 := Option.some.inj ho; clear ho; subst ho2
          have r43 : a.tmps.getD 43 undef = .bool (fits e ak) := (hk 43 (Flow.mem_looks (by kernel_rfl))).by_ 4 (by kernel_rfl) (by decide)
          have r46 : a.tmps.getD 46 undef = .bool (fits e ak) := (hk 46 (Flow.mem_looks (by kernel_rfl))).by_ 7 (by kernel_rfl) (by decide)
          have r40 : a.tmps.getD 40 undef = .bool true := (hk 40 (Flow.mem_looks (by kernel_rfl))).by_ 1 (by kernel_rfl) (by decide)
          rw [if_pos (Flow.wanted_by (t := 40) rfl (by kernel_rfl) r40)]
          refine Flow.step_value (v := .bool true) ?_ ⟨Below.refl _ _, rfl⟩
          simp [execOp, Act.eval, r43, r46, go_sem]
        | 9, ho =>
          have ho2 := Option.some.inj ho; clear ho; subst ho2
          have r40 : a.tmps.getD 40 undef = .bool true := (hk 40 (Flow.mem_looks (by kernel_rfl))).by_ 1 (by kernel_rfl) (by decide)
          have r47 : a.tmps.getD 47 undef = .bool true := (hk 47 (Flow.mem_looks (by kernel_rfl))).by_ 8 (by kernel_rfl) (by decide)
          rw [if_pos (Flow.wanted_free rfl _)]
          refine Flow.step_value (v := .bool true) ?_ ⟨Below.refl _ _, rfl⟩
          simp [execOp, Act.eval, r40, r47, go_sem]
        | 10, ho =>
          have ho2 := Option.some.inj ho; clear ho; subst ho2
          have r48 : a.tmps.getD 48 undef = .bool true := (hk 48 (Flow.mem_looks (by kernel_rfl))).by_ 9 (by kernel_rfl) (by decide)
          rw [if_pos (Flow.wanted_free rfl _)]
          refine Flow.step_value (v := .bool true) ?_ ⟨Below.refl _ _, rfl⟩
          simp [execOp, Act.eval, r48, go_sem]
        | 11, ho =>
          have ho2 := Option.some.inj ho; clear ho; subst ho2
          have r0 : a.tmps.getD 0 undef = .slice A nl cl := (hk 0 (Flow.mem_looks (by kernel_rfl))).before (by kernel_rfl)
          have r49 : a.tmps.getD 49 undef = .bool true := (hk 49 (Flow.mem_looks (by kernel_rfl))).by_ 10 (by kernel_rfl) (by decide)
          rw [if_pos (Flow.wanted_by (t := 49) rfl (by kernel_rfl) r49)]
          refine Flow.step_value (v := .slice A nl cl) ?_ ⟨Below.refl _ _, rfl⟩
          simp [execOp, Act.eval, r0, go_sem]
        | 12, ho =>
          have ho2 := Option.some.inj ho; clear ho; subst ho2
          have r5 : a.tmps.getD 5 undef = .pointer (some ⟨Ba, 0, none⟩) := (hk 5 (Flow.mem_looks (by kernel_rfl))).before (by kernel_rfl)
          have r49 : a.tmps.getD 49 undef = .bool true := (hk 49 (Flow.mem_looks (by kernel_rfl))).by_ 10 (by kernel_rfl) (by decide)
          rw [if_pos (Flow.wanted_by (t := 49) rfl (by kernel_rfl) r49)]
          refine step_load_mid 31 (.tmp 5) rfl Ba 0 r5 ak.cells _ (HA.out.below hw).range Try.underlying31 rfl (ask_info ak) ⟨Below.refl _ _, rfl⟩
        | 13, ho =>
          have ho2 := Option.some.inj ho; clear ho; subst ho2
          have r50 : a.tmps.getD 50 undef = .slice A nl cl := (hk 50 (Flow.mem_looks (by kernel_rfl))).by_ 11 (by kernel_rfl) (by decide)
          have r51 : a.tmps.getD 51 undef = .agg ak.cells.toArray := (hk 51 (Flow.mem_looks (by kernel_rfl))).by_ 12 (by kernel_rfl) (by decide)
          have r49 : a.tmps.getD 49 undef = .bool true := (hk 49 (Flow.mem_looks (by kernel_rfl))).by_ 10 (by kernel_rfl) (by decide)
          rw [if_pos (Flow.wanted_by (t := 49) rfl (by kernel_rfl) r49)]
          refine Flow.step_call (f := 16) (args := #[.slice A nl cl, .agg ak.cells.toArray]) (by simp [execOp, Act.eval, r50, r51, go_sem]) ?_
          refine (run_any' A nl cl L ak w (HL.out.below hw) (by omega)).mono ?_
          rintro r w1 ⟨⟨v1, rfl, ho1⟩, hb1⟩
          obtain ⟨A1, c1, rfl, hr1, _⟩ := ho1.rd
          exact ⟨_, rfl, hb1, A1, c1, rfl, hr1⟩
        | 14, ho =>
          have ho2 := Option.some.inj ho; clear ho; subst ho2
          have r0 : a.tmps.getD 0 undef = .slice A nl cl := (hk 0 (Flow.mem_looks (by kernel_rfl))).before (by kernel_rfl)
          have r49 : a.tmps.getD 49 undef = .bool true := (hk 49 (Flow.mem_looks (by kernel_rfl))).by_ 10 (by kernel_rfl) (by decide)
          rw [if_pos (Flow.wanted_by (t := 49) rfl (by kernel_rfl) r49)]
          refine Flow.step_value (v := .slice A nl cl) ?_ ⟨Below.refl _ _, rfl⟩
          simp [execOp, Act.eval, r0, go_sem]
        | 15, ho =>
          have ho2 := Option.some.inj ho; clear ho; subst ho2
          have r5 : a.tmps.getD 5 undef = .pointer (some ⟨Ba, 0, none⟩) := (hk 5 (Flow.mem_looks (by kernel_rfl))).before (by kernel_rfl)
          have r49 : a.tmps.getD 49 undef = .bool true := (hk 49 (Flow.mem_looks (by kernel_rfl))).by_ 10 (by kernel_rfl) (by decide)
          rw [if_pos (Flow.wanted_by (t := 49) rfl (by kernel_rfl) r49)]
          refine step_load_mid 31 (.tmp 5) rfl Ba 0 r5 ak.cells _ (HA.out.below hw).range Try.underlying31 rfl (ask_info ak) ⟨Below.refl _ _, rfl⟩
        | 16, ho =>
          have ho2 := Option.some.inj ho; clear ho; subst ho2
          have r53 : a.tmps.getD 53 undef = .slice A nl cl := (hk 53 (Flow.mem_looks (by kernel_rfl))).by_ 14 (by kernel_rfl) (by decide)
          have r54 : a.tmps.getD 54 undef = .agg ak.cells.toArray := (hk 54 (Flow.mem_looks (by kernel_rfl))).by_ 15 (by kernel_rfl) (by decide)
          have r49 : a.tmps.getD 49 undef = .bool true := (hk 49 (Flow.mem_looks (by kernel_rfl))).by_ 10 (by kernel_rfl) (by decide)
          rw [if_pos (Flow.wanted_by (t := 49) rfl (by kernel_rfl) r49)]
          refine Flow.step_call (f := 17) (args := #[.slice A nl cl, .agg ak.cells.toArray]) (by simp [execOp, Act.eval, r53, r54, go_sem]) ?_
          refine (refrun_any A nl cl L ak w (HL.out.below hw) (by omega)).mono ?_
          rintro r w1 ⟨⟨v1, rfl, ho1⟩, hb1⟩
          obtain ⟨A1, c1, rfl, hr1, _⟩ := ho1.rd
          exact ⟨_, rfl, hb1, A1, c1, rfl, hr1⟩
        | 17, ho =>
          have ho2 := Option.some.inj ho; clear ho; subst ho2
          have r52 := (hk 52 (Flow.mem_looks (by kernel_rfl))).by_ 13 (by kernel_rfl) (by decide)
          have r55 := (hk 55 (Flow.mem_looks (by kernel_rfl))).by_ 16 (by kernel_rfl) (by decide)
          have r49 : a.tmps.getD 49 undef = .bool true := (hk 49 (Flow.mem_looks (by kernel_rfl))).by_ 10 (by kernel_rfl) (by decide)
          rw [if_pos (Flow.wanted_by (t := 49) rfl (by kernel_rfl) r49)]
          obtain ⟨A1, c1, e1, hr1⟩ := r52
          obtain ⟨A2, c2, e2, hr2⟩ := r55
          refine Flow.step_call (f := 15) (args := #[.slice A1 (run ak L).length c1, .slice A2 (run ak L).length c2]) (by simp [execOp, Act.eval, e1, e2, go_sem]) ?_
          refine (sameIds_any A1 A2 _ c1 _ c2 _ _ w hr1 hr2).mono ?_
          rintro r w1 ⟨rfl, hb1⟩
          exact ⟨_, rfl, hb1, congrArg Value.bool (decide_eq_true rfl)⟩
        | 18, ho =>
          have ho2 := Option.some.inj ho; clear ho; subst ho2
          have r49 : a.tmps.getD 49 undef = .bool true := (hk 49 (Flow.mem_looks (by kernel_rfl))).by_ 10 (by kernel_rfl) (by decide)
          have r56 : a.tmps.getD 56 undef = .bool true := (hk 56 (Flow.mem_looks (by kernel_rfl))).by_ 17 (by kernel_rfl) (by decide)
          rw [if_pos (Flow.wanted_free rfl _)]
          refine Flow.step_value (v := .bool true) ?_ ⟨Below.refl _ _, rfl⟩
          simp [execOp, Act.eval, r49, r56, go_sem]
        | 19, ho =>
          have ho2 := Option.some.inj ho; clear ho; subst ho2
          have r57 : a.tmps.getD 57 undef = .bool true := (hk 57 (Flow.mem_looks (by kernel_rfl))).by_ 18 (by kernel_rfl) (by decide)
          rw [if_pos (Flow.wanted_free rfl _)]
          refine Flow.step_value (v := .bool true) ?_ ⟨Below.refl _ _, rfl⟩
          simp [execOp, Act.eval, r57, go_sem]
        | 20, ho =>
          have ho2 := Option.some.inj ho; clear ho; subst ho2
          have r8 : a.tmps.getD 8 undef = .pointer (some ⟨Bx, 0, none⟩) := (hk 8 (Flow.mem_looks (by kernel_rfl))).before (by kernel_rfl)
          have r58 : a.tmps.getD 58 undef = .bool true := (hk 58 (Flow.mem_looks (by kernel_rfl))).by_ 19 (by kernel_rfl) (by decide)
          rw [if_pos (Flow.wanted_by (t := 58) rfl (by kernel_rfl) r58)]
          refine step_load_mid 31 (.tmp 8) rfl Bx 0 r8 (next ak L).1.cells _ (HX.out.below hw).range Try.underlying31 rfl (ask_info (next ak L).1) ⟨Below.refl _ _, rfl⟩
        | 21, ho =>
          have ho2 := Option.some.inj ho; clear ho; subst ho2
          have r10 : a.tmps.getD 10 undef = .pointer (some ⟨By, 0, none⟩) := (hk 10 (Flow.mem_looks (by kernel_rfl))).before (by kernel_rfl)
          have r58 : a.tmps.getD 58 undef = .bool true := (hk 58 (Flow.mem_looks (by kernel_rfl))).by_ 19 (by kernel_rfl) (by decide)
          rw [if_pos (Flow.wanted_by (t := 58) rfl (by kernel_rfl) r58)]
          refine step_load_mid 31 (.tmp 10) rfl By 0 r10 (next ak L).1.cells _ (HY.out.below hw).range Try.underlying31 rfl (ask_info (next ak L).1) ⟨Below.refl _ _, rfl⟩
        | 22, ho =>
          have ho2 := Option.some.inj ho; clear ho; subst ho2
          have r59 : a.tmps.getD 59 undef = .agg (next ak L).1.cells.toArray := (hk 59 (Flow.mem_looks (by kernel_rfl))).by_ 20 (by kernel_rfl) (by decide)
          have r60 : a.tmps.getD 60 undef = .agg (next ak L).1.cells.toArray := (hk 60 (Flow.mem_looks (by kernel_rfl))).by_ 21 (by kernel_rfl) (by decide)
          have r58 : a.tmps.getD 58 undef = .bool true := (hk 58 (Flow.mem_looks (by kernel_rfl))).by_ 19 (by kernel_rfl) (by decide)
          rw [if_pos (Flow.wanted_by (t := 58) rfl (by kernel_rfl) r58)]
          refine Flow.step_value (v := .bool true) ?_ ⟨Below.refl _ _, rfl⟩
          simp [execOp, Act.eval, r59, r60, Ask.cells, go_sem]
        | 23, ho =>
          have ho2 := Option.some.inj ho; clear ho; subst ho2
          have r58 : a.tmps.getD 58 undef = .bool true := (hk 58 (Flow.mem_looks (by kernel_rfl))).by_ 19 (by kernel_rfl) (by decide)
          have r61 : a.tmps.getD 61 undef = .bool true := (hk 61 (Flow.mem_looks (by kernel_rfl))).by_ 22 (by kernel_rfl) (by decide)
          rw [if_pos (Flow.wanted_free rfl _)]
          refine Flow.step_value (v := .bool true) ?_ ⟨Below.refl _ _, rfl⟩
          simp [execOp, Act.eval, r58, r61, go_sem]
        | 24, ho =>
          have ho2 := Option.some.inj ho; clear ho; subst ho2
          have r62 : a.tmps.getD 62 undef = .bool true := (hk 62 (Flow.mem_looks (by kernel_rfl))).by_ 23 (by kernel_rfl) (by decide)
          rw [if_pos (Flow.wanted_free rfl _)]
          refine Flow.step_value (v := .bool true) ?_ ⟨Below.refl _ _, rfl⟩
          simp [execOp, Act.eval, r62, go_sem]
        | 25, ho =>
          have ho2 := Option.some.inj ho; clear ho; subst ho2
          have r9 : a.tmps.getD 9 undef = .bool (next ak L).2 := (hk 9 (Flow.mem_looks (by kernel_rfl))).before (by kernel_rfl)
          have r63 : a.tmps.getD 63 undef = .bool true := (hk 63 (Flow.mem_looks (by kernel_rfl))).by_ 24 (by kernel_rfl) (by decide)
          rw [if_pos (Flow.wanted_by (t := 63) rfl (by kernel_rfl) r63)]
          refine Flow.step_value (v := .bool (next ak L).2) ?_ ⟨Below.refl _ _, rfl⟩
          simp [execOp, Act.eval, r9, go_sem]
        | 26, ho =>
          have ho2 := Option.some.inj ho; clear ho; subst ho2
          have r11 : a.tmps.getD 11 undef = .bool (next ak L).2 := (hk 11 (Flow.mem_looks (by kernel_rfl))).before (by kernel_rfl)
          have r63 : a.tmps.getD 63 undef = .bool true := (hk 63 (Flow.mem_looks (by kernel_rfl))).by_ 24 (by kernel_rfl) (by decide)
          rw [if_pos (Flow.wanted_by (t := 63) rfl (by kernel_rfl) r63)]
          refine Flow.step_value (v := .bool (next ak L).2) ?_ ⟨Below.refl _ _, rfl⟩
          simp [execOp, Act.eval, r11, go_sem]
        | 27, ho =>
          have ho2 := Option.some.inj ho; clear ho; subst ho2
          have r64 : a.tmps.getD 64 undef = .bool (next ak L).2 := (hk 64 (Flow.mem_looks (by kernel_rfl))).by_ 25 (by kernel_rfl) (by decide)
          have r65 : a.tmps.getD 65 undef = .bool (next ak L).2 := (hk 65 (Flow.mem_looks (by kernel_rfl))).by_ 26 (by kernel_rfl) (by decide)
          have r63 : a.tmps.getD 63 undef = .bool true := (hk 63 (Flow.mem_looks (by kernel_rfl))).by_ 24 (by kernel_rfl) (by decide)
          rw [if_pos (Flow.wanted_by (t := 63) rfl (by kernel_rfl) r63)]
          refine Flow.step_value (v := .bool true) ?_ ⟨Below.refl _ _, rfl⟩
          simp [execOp, Act.eval, r64, r65, go_sem]
        | 28, ho =>
          have ho2 := Option.some.inj ho; clear ho; subst ho2
          have r63 : a.tmps.getD 63 undef = .bool true := (hk 63 (Flow.mem_looks (by kernel_rfl))).by_ 24 (by kernel_rfl) (by decide)
          have r66 : a.tmps.getD 66 undef = .bool true := (hk 66 (Flow.mem_looks (by kernel_rfl))).by_ 27 (by kernel_rfl) (by decide)
          rw [if_pos (Flow.wanted_free rfl _)]
          refine Flow.step_value (v := .bool true) ?_ ⟨Below.refl _ _, rfl⟩
          simp [execOp, Act.eval, r63, r66, go_sem]
        | 29, ho =>
          have ho2 := Option.some.inj ho; clear ho; subst ho2
          have r67 : a.tmps.getD 67 undef = .bool true := (hk 67 (Flow.mem_looks (by kernel_rfl))).by_ 28 (by kernel_rfl) (by decide)
          rw [if_pos (Flow.wanted_free rfl _)]
          refine Flow.step_value (v := .bool true) ?_ ⟨Below.refl _ _, rfl⟩
          simp [execOp, Act.eval, r67, go_sem]
        | _ + 30, ho => exact absurd ho (by simp)
      case fin =>
        intro a4 w4 hw4 hd4 hs4 hg4 hold
        have r := hg4 29 _ 6 rfl rfl
        refine (‹∀ (a : Act) (w : World), Code.wp _ Code.ret _ a w → _›) _ _ ?_
        refine wp_ret ?_
        refine bodyPost_ret (results_tmp rfl _ _ _) hd4 ⟨congrArg Ending.returned r, below_trans BW8.out hw4 BW8.out.size⟩
end Go.Proofs.Ytbfnjfmnblafaaa.Qry
