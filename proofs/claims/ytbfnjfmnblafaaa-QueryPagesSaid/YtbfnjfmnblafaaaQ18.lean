/- The law's head answers true. -/
import Derived.Test.YtbfnjfmnblafaaaQ17
import Derived.Test.YtbfnjfmnblafaaaFlow
namespace Go.Proofs.Ytbfnjfmnblafaaa.Qry
open Go.RowKit

theorem blk_below {w w1 : World} {g : Nat} {X : Array Value} {t : TypeId} (h : w.heap[g]? = some (.cells X t (0, 0))) (hb : Below w.heap.size w w1) : w1.heap[g]? = some (.cells X t (0, 0)) := (hb.block g (Array.getElem?_eq_some_iff.1 h).1).trans h
theorem at_blk {w : World} {g : Nat} {a : Ask} {t : TypeId} (h : w.heap[g]? = some (.cells a.cells.toArray t (0, 0))) : At w g 0 a.cells := fun j hj => by simp [World.cell?, h, hj]
theorem ask_info (a : Ask) : (Try.prog.info? 31).map (·.size) = some a.cells.length := by rw [Ask.cells_length]; kernel_rfl
theorem ent_info (e : Ent) : (Try.prog.info? 29).map (·.size) = some e.cells.length := by rw [Ent.cells_length]; kernel_rfl
theorem run_any' (A : Option Addr) (nl cl : Nat) (L : List Ent) (a : Ask) (w : World) (hE : Ents w A nl cl L) (hnl : nl ≤ 100000) :
    Calls Try.prog 16 #[.slice A nl cl, .agg a.cells.toArray] w (RunPost w (run a L)) := by rw [← ids_outs]; exact run_any A nl cl L a w hE hnl
theorem next_any' (A : Option Addr) (nl cl : Nat) (L : List Ent) (a : Ask) (w : World) (hE : Ents w A nl cl L) :
    Calls Try.prog 11 #[.slice A nl cl, .agg a.cells.toArray] w (NextPost w (next a L)) := by rw [← nxt_outs]; exact next_any A nl cl L a w hE
def G9 (s _Ba Bn _Bm _Bb : Nat) (E1 : Ent) : Nat → Value → World → Prop
  | 0 => fun v _ => v = .slice (some ⟨s, 0, none⟩) 3 3
  | 1 => fun v _ => v = .agg a0.cells.toArray
  | 2 => fun v w => ∃ A c, v = .slice A 2 c ∧ Rd w .i64 A 2 c [4, 2]
  | 3 => fun v w => ∃ A c, v = .slice A 2 c ∧ Rd w .i64 A 2 c [4, 2]
  | 4 => fun v _ => v = .bool true
  | 5 => fun v _ => v = .bool true
  | 6 => fun v _ => v = .bool true
  | 7 => fun v _ => v = .bool true
  | 8 => fun v _ => v = .bool true
  | 9 => fun v _ => v = .pointer (some ⟨Bn, 4, none⟩)
  | 10 => fun v _ => v = .int .i64 3
  | 11 => fun v _ => v = .bool true
  | 12 => fun v _ => v = .bool true
  | 13 => fun v _ => v = .bool true
  | 14 => fun v _ => v = .pointer (some ⟨Bn, 5, none⟩)
  | 15 => fun v _ => v = .int .i64 2
  | 16 => fun v _ => v = .bool true
  | 17 => fun v _ => v = .bool true
  | 18 => fun v _ => v = .bool true
  | 19 => fun v _ => v = .slice (some ⟨s, 0, none⟩) 3 3
  | 20 => fun v _ => v = .agg n0.cells.toArray
  | 21 => fun v w => ∃ A c, v = .slice A 1 c ∧ Rd w .i64 A 1 c [9]
  | 22 => fun v w => ∃ A c, v = .slice A 1 c ∧ Rd w .i64 A 1 c [9]
  | 23 => fun v _ => v = .bool true
  | 24 => fun v _ => v = .bool true
  | 25 => fun v _ => v = .bool true
  | 26 => fun v _ => v = .bool false
  | 27 => fun v _ => v = .bool true
  | 28 => fun v _ => v = .bool true
  | 29 => fun v _ => v = .bool true
  | 30 => fun v _ => v = .agg Ask.zero.cells.toArray
  | 31 => fun v _ => v = .agg Ask.zero.cells.toArray
  | 32 => fun v _ => v = .bool true
  | 33 => fun v _ => v = .bool true
  | 34 => fun v _ => v = .bool true
  | 35 => fun v _ => v = .slice (some ⟨s, 0, none⟩) 3 3
  | 36 => fun v _ => v = .agg b0.cells.toArray
  | 37 => fun v w => ∃ A c, v = .slice A 0 c ∧ Rd w .i64 A 0 c []
  | 38 => fun v _ => v = .int .i64 0
  | 39 => fun v _ => v = .bool true
  | 40 => fun v _ => v = .bool true
  | 41 => fun v _ => v = .bool true
  | 42 => fun v _ => v = .slice (some ⟨s, 0, none⟩) 3 3
  | 43 => fun v _ => v = .pointer (some ⟨s, 0, none⟩)
  | 44 => fun v _ => v = .agg E1.cells.toArray
  | 45 => fun v _ => v = .agg a0.cells.toArray
  | 46 => fun v _ => v = .bool true
  | 47 => fun v _ => v = .bool true
  | 48 => fun v _ => v = .bool true
  | 49 => fun v _ => v = .slice (some ⟨s, 0, none⟩) 3 3
  | 50 => fun v _ => v = .pointer (some ⟨s, 0, none⟩)
  | 51 => fun v _ => v = .agg E1.cells.toArray
  | 52 => fun v _ => v = .agg n0.cells.toArray
  | 53 => fun v _ => v = .bool false
  | 54 => fun v _ => v = .bool true
  | 55 => fun v _ => v = .bool true
  | 56 => fun v _ => v = .bool true
  | _ => fun _ _ => True
theorem G9_stable (s Ba Bn Bm Bb : Nat) (E1 : Ent) : ∀ i v w w', G9 s Ba Bn Bm Bb E1 i v w → Below w.heap.size w w' → G9 s Ba Bn Bm Bb E1 i v w' := by
  intro i v w w' h hb
  match i, h with
  | 0, h => exact h
  | 1, h => exact h
  | 2, h => exact (by obtain ⟨A, c, e, hr⟩ := h; exact ⟨A, c, e, hr.below hb⟩)
  | 3, h => exact (by obtain ⟨A, c, e, hr⟩ := h; exact ⟨A, c, e, hr.below hb⟩)
  | 4, h => exact h
  | 5, h => exact h
  | 6, h => exact h
  | 7, h => exact h
  | 8, h => exact h
  | 9, h => exact h
  | 10, h => exact h
  | 11, h => exact h
  | 12, h => exact h
  | 13, h => exact h
  | 14, h => exact h
  | 15, h => exact h
  | 16, h => exact h
  | 17, h => exact h
  | 18, h => exact h
  | 19, h => exact h
  | 20, h => exact h
  | 21, h => exact (by obtain ⟨A, c, e, hr⟩ := h; exact ⟨A, c, e, hr.below hb⟩)
  | 22, h => exact (by obtain ⟨A, c, e, hr⟩ := h; exact ⟨A, c, e, hr.below hb⟩)
  | 23, h => exact h
  | 24, h => exact h
  | 25, h => exact h
  | 26, h => exact h
  | 27, h => exact h
  | 28, h => exact h
  | 29, h => exact h
  | 30, h => exact h
  | 31, h => exact h
  | 32, h => exact h
  | 33, h => exact h
  | 34, h => exact h
  | 35, h => exact h
  | 36, h => exact h
  | 37, h => exact (by obtain ⟨A, c, e, hr⟩ := h; exact ⟨A, c, e, hr.below hb⟩)
  | 38, h => exact h
  | 39, h => exact h
  | 40, h => exact h
  | 41, h => exact h
  | 42, h => exact h
  | 43, h => exact h
  | 44, h => exact h
  | 45, h => exact h
  | 46, h => exact h
  | 47, h => exact h
  | 48, h => exact h
  | 49, h => exact h
  | 50, h => exact h
  | 51, h => exact h
  | 52, h => exact h
  | 53, h => exact h
  | 54, h => exact h
  | 55, h => exact h
  | 56, h => exact h
  | _ + 57, _ => exact trivial
set_option maxRecDepth 100000 in
set_option maxHeartbeats 8000000 in
theorem head_any (w : World) : Calls Try.prog 9 #[] w (SayB w true) := by
  have hzi : (Try.prog.info? 31).map (·.size) = some 7 := by kernel_rfl
  have HZI := Lib.hid hzi
  have HA1 := Lib.hid (show a0.cells.toArray.all (·.oneCell') = true by rw [List.all_toArray, List.all_eq_true]; exact ask_one _)
  have HN1 := Lib.hid (show n0.cells.toArray.all (·.oneCell') = true by rw [List.all_toArray, List.all_eq_true]; exact ask_one _)
  have HM1 := Lib.hid (show Ask.zero.cells.toArray.all (·.oneCell') = true by rw [List.all_toArray, List.all_eq_true]; exact ask_one _)
  clear hzi
  go_enter Try.func9, Try.ntmps9
  go_wp2_with fail
  refine (one_any 4 1 1 0 w).mono ?_
  rintro r w1 ⟨A1, rfl, hs1, hb1⟩
  have S1 := Lib.hid hs1
  have B1 := Lib.hid hb1
  clear hs1 hb1
  go_wp2_with fail
  refine (one_any 2 3 1 0 w1).mono ?_
  rintro r w2 ⟨A2, rfl, hs2, hb2⟩
  have S2 := Lib.hid hs2
  have S1' := Lib.hid (S1.out.below hb2)
  have B2 := Lib.hid (below_trans B1.out hb2 B1.out.size)
  clear hs2 hb2
  go_wp2_with fail
  refine (one_any 9 3 1 0 w2).mono ?_
  rintro r w3 ⟨A3, rfl, hs3, hb3⟩
  have S3 := Lib.hid hs3
  have S2' := Lib.hid (S2.out.below hb3)
  have S1'' := Lib.hid (S1'.out.below hb3)
  have B3 := Lib.hid (below_trans B2.out hb3 B2.out.size)
  clear hs3 hb3
  go_upto_region 2 with (refine wpList_build3 rfl 8 9 10 rfl (one 4 1 1 0 A1) (one 2 3 1 0 A2) (one 9 3 1 0 A3) rfl rfl rfl ?_)
  have hL := ents3 w3 (one 4 1 1 0 A1) (one 2 3 1 0 A2) (one 9 3 1 0 A3) S1''.out S2'.out S3.out
  obtain ⟨W4, hW4⟩ : ∃ W, W = w3.alloc (.cells ((one 4 1 1 0 A1).cells ++ ((one 2 3 1 0 A2).cells ++ (one 9 3 1 0 A3).cells)).toArray 29) := ⟨_, rfl⟩
  rw [← hW4] at hL ⊢
  have B4 := Lib.hid (show Below w.heap.size w W4 by rw [hW4]; exact B3.out.alloc B3.out.size _)
  obtain ⟨s, hs⟩ : ∃ s, s = w3.heap.size := ⟨_, rfl⟩
  rw [← hs] at hL ⊢
  have HL4 := Lib.hid hL
  clear hs hW4 hL S1 S2 S3 S1' S2' S1'' B1 B2 B3
  go_upto_region 3 with (refine wpList_store_row rfl 31 (.tmp 2) (.tmp 12) rfl W4.heap.size a0.cells.toArray rfl rfl 31 _ (heap_alloc_new _ _) HZI.out rfl HA1.out ?_; rw [World.setRow_alloc_new])
  obtain ⟨W5, hW5⟩ : ∃ W, W = W4.alloc (.cells a0.cells.toArray 31) := ⟨_, rfl⟩
  rw [← hW5]
  have eW5 : Below W4.heap.size W4 W5 := by rw [hW5]; exact (Below.refl _ _).alloc (Nat.le_refl _) _
  obtain ⟨Ba, hBa⟩ : ∃ b, b = W4.heap.size := ⟨_, rfl⟩
  rw [← hBa]
  have HA5 := Lib.hid (show W5.heap[Ba]? = some (.cells a0.cells.toArray 31 (0, 0)) by rw [hW5, hBa]; exact heap_alloc_new _ _)
  have BW5 := Lib.hid (below_trans B4.out eW5 B4.out.size)
  have HL5 := Lib.hid (HL4.out.below eW5)
  clear hW5 eW5 hBa
  go_wp2_with (refine wpList_load_row rfl 31 (.tmp 2) rfl Ba rfl 31 a0.cells.toArray (0, 0) _ HA5.out Try.underlying31 rfl HZI.out ?_)
  have hn := next_any' _ 3 3 (LL A1 A2 A3) a0 W5 HL5.out
  rw [next_a] at hn
  refine hn.mono ?_
  clear hn
  rintro r W6 ⟨rfl, hb6⟩
  have HL6 := Lib.hid (HL5.out.below hb6)
  have HA6 := Lib.hid (blk_below HA5.out hb6)
  have B6 := Lib.hid (below_trans BW5.out hb6 BW5.out.size)
  clear hb6
  go_upto_region 4 with (refine wpList_store_row rfl 31 (.tmp 3) (.tmp 17) rfl W6.heap.size n0.cells.toArray rfl rfl 31 _ (heap_alloc_new _ _) HZI.out rfl HN1.out ?_; rw [World.setRow_alloc_new])
  obtain ⟨W7, hW7⟩ : ∃ W, W = W6.alloc (.cells n0.cells.toArray 31) := ⟨_, rfl⟩
  rw [← hW7]
  have eW7 : Below W6.heap.size W6 W7 := by rw [hW7]; exact (Below.refl _ _).alloc (Nat.le_refl _) _
  obtain ⟨Bn, hBn⟩ : ∃ b, b = W6.heap.size := ⟨_, rfl⟩
  rw [← hBn]
  have HN7 := Lib.hid (show W7.heap[Bn]? = some (.cells n0.cells.toArray 31 (0, 0)) by rw [hW7, hBn]; exact heap_alloc_new _ _)
  have BW7 := Lib.hid (below_trans B6.out eW7 B6.out.size)
  have HL7 := Lib.hid (HL6.out.below eW7)
  have HA7 := Lib.hid (blk_below HA6.out eW7)
  clear hW7 eW7 hBn
  go_wp2_with (refine wpList_load_row rfl 31 (.tmp 3) rfl Bn rfl 31 n0.cells.toArray (0, 0) _ HN7.out Try.underlying31 rfl HZI.out ?_)
  have hn := next_any' _ 3 3 (LL A1 A2 A3) n0 W7 HL7.out
  rw [next_n] at hn
  refine hn.mono ?_
  clear hn
  rintro r W8 ⟨rfl, hb8⟩
  have HL8 := Lib.hid (HL7.out.below hb8)
  have HA8 := Lib.hid (blk_below HA7.out hb8)
  have HN8 := Lib.hid (blk_below HN7.out hb8)
  have B8 := Lib.hid (below_trans BW7.out hb8 BW7.out.size)
  clear hb8
  go_upto_region 5 with (refine wpList_store_row rfl 31 (.tmp 5) (.tmp 23) rfl W8.heap.size Ask.zero.cells.toArray rfl rfl 31 _ (heap_alloc_new _ _) HZI.out rfl HM1.out ?_; rw [World.setRow_alloc_new])
  obtain ⟨W9, hW9⟩ : ∃ W, W = W8.alloc (.cells Ask.zero.cells.toArray 31) := ⟨_, rfl⟩
  rw [← hW9]
  have eW9 : Below W8.heap.size W8 W9 := by rw [hW9]; exact (Below.refl _ _).alloc (Nat.le_refl _) _
  obtain ⟨Bm, hBm⟩ : ∃ b, b = W8.heap.size := ⟨_, rfl⟩
  rw [← hBm]
  have HM9 := Lib.hid (show W9.heap[Bm]? = some (.cells Ask.zero.cells.toArray 31 (0, 0)) by rw [hW9, hBm]; exact heap_alloc_new _ _)
  have BW9 := Lib.hid (below_trans B8.out eW9 B8.out.size)
  have HL9 := Lib.hid (HL8.out.below eW9)
  have HA9 := Lib.hid (blk_below HA8.out eW9)
  have HN9 := Lib.hid (blk_below HN8.out eW9)
  clear hW9 eW9 hBm
  go_upto_region 6 with (first | (refine wpList_load_row rfl 31 (.tmp 2) rfl Ba rfl 31 a0.cells.toArray (0, 0) _ HA9.out Try.underlying31 rfl HZI.out ?_) | (refine wpList_store_row rfl 31 (.tmp 7) (.tmp 25) rfl W9.heap.size a0.cells.toArray rfl rfl 31 _ (heap_alloc_new _ _) HZI.out rfl HA1.out ?_; rw [World.setRow_alloc_new]))
  obtain ⟨W10, hW10⟩ : ∃ W, W = W9.alloc (.cells a0.cells.toArray 31) := ⟨_, rfl⟩
  rw [← hW10]
  have eW10 : Below W9.heap.size W9 W10 := by rw [hW10]; exact (Below.refl _ _).alloc (Nat.le_refl _) _
  obtain ⟨Bb, hBb⟩ : ∃ b, b = W9.heap.size := ⟨_, rfl⟩
  rw [← hBb]
  have HB10 := Lib.hid (show W10.heap[Bb]? = some (.cells a0.cells.toArray 31 (0, 0)) by rw [hW10, hBb]; exact heap_alloc_new _ _)
  have BW10 := Lib.hid (below_trans BW9.out eW10 BW9.out.size)
  have HL10 := Lib.hid (HL9.out.below eW10)
  have HA10 := Lib.hid (blk_below HA9.out eW10)
  have HN10 := Lib.hid (blk_below HN9.out eW10)
  have HM10 := Lib.hid (blk_below HM9.out eW10)
  have hcb : W10.cell? ⟨Bb, 0, none⟩ = some (.string ⟨#[]⟩) := by have h := HB10.out; simp [World.cell?, h, a0, Ask.cells]
  have hfb : W10.frozen? ⟨Bb, 0, none⟩ = false := frozen_of_row _ Bb 0 _ 31 HB10.out
  have HBL := Lib.hid (show W9.heap.size ≤ Bb by omega)
  have HW9 := Lib.hid eW10
  clear hW10 eW10 hBb
  go_wp2_with fail
  obtain ⟨W11, hW11⟩ : ∃ W, W = W10.setCell ⟨Bb, 0, none⟩ (.string ⟨#[100, 98]⟩) := ⟨_, rfl⟩
  rw [← hW11]
  have hb11 : Below W9.heap.size W9 W11 := by rw [hW11]; exact HW9.out.setCell (p := ⟨Bb, 0, none⟩) HBL.out _
  have HL := Lib.hid (HL9.out.below hb11)
  have HA := Lib.hid (at_blk (blk_below HA9.out hb11))
  have HN := Lib.hid (at_blk (blk_below HN9.out hb11))
  have HM := Lib.hid (at_blk (blk_below HM9.out hb11))
  have HBB : Hid (At W11 Bb 0 b0.cells) := Lib.hid (at_blk (by rw [hW11]; have h := heap_setCell_same W10 Bb 0 _ 31 (.string ⟨#[100, 98]⟩) HB10.out; exact h))
  obtain ⟨E1, hE1⟩ : ∃ E, E = one 4 1 1 0 A1 := ⟨_, rfl⟩
  have HF1 : Hid (fits E1 a0 = true) := Lib.hid (by rw [hE1, fit_a]; rfl)
  have HF2 : Hid (fits E1 n0 = false) := Lib.hid (by rw [hE1, fit_n]; rfl)
  have HE1 : Hid (At W11 s 0 E1.cells) := Lib.hid (by
    obtain ⟨b, o, e, hc⟩ := HL.out.spot _ rfl (by decide)
    cases e
    rw [hE1]
    exact hc 0 (Nat.zero_lt_succ _))
  have HR1 := Lib.hid (HL.out.rows E1 (by rw [hE1]; exact List.mem_cons_self ..))
  have B11 := Lib.hid (below_trans BW9.out hb11 BW9.out.size)
  clear hcb hfb hb11 hW11 hE1
  refine Flow.wp_region_flow (by kernel_rfl) (G9 s Ba Bn Bm Bb E1) (by kernel_rfl) (G9_stable s Ba Bn Bm Bb E1) ?loc ?fin
  case loc =>
    intro i o ho a w hw hk
    match i, ho with
    | 0, ho =>
      have ho2 := Option.some.inj ho; clear ho; subst ho2
      have r1 : a.tmps.getD 1 undef = .slice (some ⟨s, 0, none⟩) 3 3 := (hk 1 (Flow.mem_looks (by kernel_rfl))).before (by kernel_rfl)
      rw [if_pos (Flow.wanted_free rfl _)]
      refine Flow.step_value (v := .slice (some ⟨s, 0, none⟩) 3 3) ?_ ⟨Below.refl _ _, rfl⟩
      simp [execOp, Act.eval, r1, go_sem]
    | 1, ho =>
      have ho2 := Option.some.inj ho; clear ho; subst ho2
      have r2 : a.tmps.getD 2 undef = .pointer (some ⟨Ba, 0, none⟩) := (hk 2 (Flow.mem_looks (by kernel_rfl))).before (by kernel_rfl)
      rw [if_pos (Flow.wanted_free rfl _)]
      refine step_load_mid 31 (.tmp 2) rfl Ba 0 r2 a0.cells _ (HA.out.below hw).range Try.underlying31 rfl (ask_info a0) ⟨Below.refl _ _, rfl⟩
    | 2, ho =>
      have ho2 := Option.some.inj ho; clear ho; subst ho2
      have r27 : a.tmps.getD 27 undef = .slice (some ⟨s, 0, none⟩) 3 3 := (hk 27 (Flow.mem_looks (by kernel_rfl))).by_ 0 (by kernel_rfl) (by decide)
      have r28 : a.tmps.getD 28 undef = .agg a0.cells.toArray := (hk 28 (Flow.mem_looks (by kernel_rfl))).by_ 1 (by kernel_rfl) (by decide)
      rw [if_pos (Flow.wanted_free rfl _)]
      refine Flow.step_call (f := 16) (args := #[.slice (some ⟨s, 0, none⟩) 3 3, .agg a0.cells.toArray]) (by simp [execOp, Act.eval, r27, r28, go_sem]) ?_
      refine (run_any' (some ⟨s, 0, none⟩) 3 3 (LL A1 A2 A3) a0 w (HL.out.below hw) (by decide)).mono ?_
      rintro r w1 ⟨⟨v1, rfl, ho1⟩, hb1⟩
      rw [run_a] at ho1
      obtain ⟨A1, c1, rfl, hr1, _⟩ := ho1.rd
      exact ⟨_, rfl, hb1, A1, c1, rfl, hr1⟩
    | 3, ho =>
      have ho2 := Option.some.inj ho; clear ho; subst ho2
      rw [if_pos (Flow.wanted_free rfl _)]
      refine step_run (v := .slice (some ⟨w.heap.size, 0, none⟩) 2 2) (w' := w.alloc (.cells ([4, 2].map (Value.int .i64)).toArray 2)) (by simp [execOp, Act.eval, go_sem]) ⟨(Below.refl _ _).alloc (Nat.le_refl _) _, _, _, rfl, Rd.lit w .i64 2 [4, 2] (by decide)⟩
    | 4, ho =>
      have ho2 := Option.some.inj ho; clear ho; subst ho2
      have r29 := (hk 29 (Flow.mem_looks (by kernel_rfl))).by_ 2 (by kernel_rfl) (by decide)
      have r30 := (hk 30 (Flow.mem_looks (by kernel_rfl))).by_ 3 (by kernel_rfl) (by decide)
      rw [if_pos (Flow.wanted_free rfl _)]
      obtain ⟨A1, c1, e1, hr1⟩ := r29
      obtain ⟨A2, c2, e2, hr2⟩ := r30
      refine Flow.step_call (f := 15) (args := #[.slice A1 2 c1, .slice A2 2 c2]) (by simp [execOp, Act.eval, e1, e2, go_sem]) ?_
      refine (sameIds_any A1 A2 2 c1 2 c2 _ _ w hr1 hr2).mono ?_
      rintro r w1 ⟨rfl, hb1⟩
      exact ⟨_, rfl, hb1, congrArg Value.bool (by decide)⟩
    | 5, ho =>
      have ho2 := Option.some.inj ho; clear ho; subst ho2
      have r31 : a.tmps.getD 31 undef = .bool true := (hk 31 (Flow.mem_looks (by kernel_rfl))).by_ 4 (by kernel_rfl) (by decide)
      rw [if_pos (Flow.wanted_free rfl _)]
      refine Flow.step_value (v := .bool true) ?_ ⟨Below.refl _ _, rfl⟩
      simp [execOp, Act.eval, r31, go_sem]
    | 6, ho =>
      have ho2 := Option.some.inj ho; clear ho; subst ho2
      have r4 : a.tmps.getD 4 undef = .bool true := (hk 4 (Flow.mem_looks (by kernel_rfl))).before (by kernel_rfl)
      have r32 : a.tmps.getD 32 undef = .bool true := (hk 32 (Flow.mem_looks (by kernel_rfl))).by_ 5 (by kernel_rfl) (by decide)
      rw [if_pos (Flow.wanted_by (t := 32) rfl (by kernel_rfl) r32)]
      refine Flow.step_value (v := .bool true) ?_ ⟨Below.refl _ _, rfl⟩
      simp [execOp, Act.eval, r4, go_sem]
    | 7, ho =>
      have ho2 := Option.some.inj ho; clear ho; subst ho2
      have r32 : a.tmps.getD 32 undef = .bool true := (hk 32 (Flow.mem_looks (by kernel_rfl))).by_ 5 (by kernel_rfl) (by decide)
      have r33 : a.tmps.getD 33 undef = .bool true := (hk 33 (Flow.mem_looks (by kernel_rfl))).by_ 6 (by kernel_rfl) (by decide)
      rw [if_pos (Flow.wanted_free rfl _)]
      refine Flow.step_value (v := .bool true) ?_ ⟨Below.refl _ _, rfl⟩
      simp [execOp, Act.eval, r32, r33, go_sem]
    | 8, ho =>
      have ho2 := Option.some.inj ho; clear ho; subst ho2
      have r34 : a.tmps.getD 34 undef = .bool true := (hk 34 (Flow.mem_looks (by kernel_rfl))).by_ 7 (by kernel_rfl) (by decide)
      rw [if_pos (Flow.wanted_free rfl _)]
      refine Flow.step_value (v := .bool true) ?_ ⟨Below.refl _ _, rfl⟩
      simp [execOp, Act.eval, r34, go_sem]
    | 9, ho =>
      have ho2 := Option.some.inj ho; clear ho; subst ho2
      have r3 : a.tmps.getD 3 undef = .pointer (some ⟨Bn, 0, none⟩) := (hk 3 (Flow.mem_looks (by kernel_rfl))).before (by kernel_rfl)
      have r35 : a.tmps.getD 35 undef = .bool true := (hk 35 (Flow.mem_looks (by kernel_rfl))).by_ 8 (by kernel_rfl) (by decide)
      rw [if_pos (Flow.wanted_by (t := 35) rfl (by kernel_rfl) r35)]
      refine Flow.step_value (v := .pointer (some ⟨Bn, 4, none⟩)) ?_ ⟨Below.refl _ _, rfl⟩
      simp [execOp, Act.eval, r3, go_sem]
    | 10, ho =>
      have ho2 := Option.some.inj ho; clear ho; subst ho2
      have r36 : a.tmps.getD 36 undef = .pointer (some ⟨Bn, 4, none⟩) := (hk 36 (Flow.mem_looks (by kernel_rfl))).by_ 9 (by kernel_rfl) (by decide)
      have r35 : a.tmps.getD 35 undef = .bool true := (hk 35 (Flow.mem_looks (by kernel_rfl))).by_ 8 (by kernel_rfl) (by decide)
      rw [if_pos (Flow.wanted_by (t := 35) rfl (by kernel_rfl) r35)]
      have h6 : w.cell? ⟨Bn, 4, none⟩ = some (.int .i64 3) := (HN.out.below hw) 4 (by rw [Ask.cells_length]; decide)
      refine Flow.step_value (v := .int .i64 3) ?_ ⟨Below.refl _ _, rfl⟩
      simp [execOp, Act.eval, r36, h6, go_sem]
    | 11, ho =>
      have ho2 := Option.some.inj ho; clear ho; subst ho2
      have r37 : a.tmps.getD 37 undef = .int .i64 3 := (hk 37 (Flow.mem_looks (by kernel_rfl))).by_ 10 (by kernel_rfl) (by decide)
      have r35 : a.tmps.getD 35 undef = .bool true := (hk 35 (Flow.mem_looks (by kernel_rfl))).by_ 8 (by kernel_rfl) (by decide)
      rw [if_pos (Flow.wanted_by (t := 35) rfl (by kernel_rfl) r35)]
      refine Flow.step_value (v := .bool true) ?_ ⟨Below.refl _ _, rfl⟩
      simp [execOp, Act.eval, r37, go_sem]
    | 12, ho =>
      have ho2 := Option.some.inj ho; clear ho; subst ho2
      have r35 : a.tmps.getD 35 undef = .bool true := (hk 35 (Flow.mem_looks (by kernel_rfl))).by_ 8 (by kernel_rfl) (by decide)
      have r38 : a.tmps.getD 38 undef = .bool true := (hk 38 (Flow.mem_looks (by kernel_rfl))).by_ 11 (by kernel_rfl) (by decide)
      rw [if_pos (Flow.wanted_free rfl _)]
      refine Flow.step_value (v := .bool true) ?_ ⟨Below.refl _ _, rfl⟩
      simp [execOp, Act.eval, r35, r38, go_sem]
    | 13, ho =>
      have ho2 := Option.some.inj ho; clear ho; subst ho2
      have r39 : a.tmps.getD 39 undef = .bool true := (hk 39 (Flow.mem_looks (by kernel_rfl))).by_ 12 (by kernel_rfl) (by decide)
      rw [if_pos (Flow.wanted_free rfl _)]
      refine Flow.step_value (v := .bool true) ?_ ⟨Below.refl _ _, rfl⟩
      simp [execOp, Act.eval, r39, go_sem]
    | 14, ho =>
      have ho2 := Option.some.inj ho; clear ho; subst ho2
      have r3 : a.tmps.getD 3 undef = .pointer (some ⟨Bn, 0, none⟩) := (hk 3 (Flow.mem_looks (by kernel_rfl))).before (by kernel_rfl)
      have r40 : a.tmps.getD 40 undef = .bool true := (hk 40 (Flow.mem_looks (by kernel_rfl))).by_ 13 (by kernel_rfl) (by decide)
      rw [if_pos (Flow.wanted_by (t := 40) rfl (by kernel_rfl) r40)]
      refine Flow.step_value (v := .pointer (some ⟨Bn, 5, none⟩)) ?_ ⟨Below.refl _ _, rfl⟩
      simp [execOp, Act.eval, r3, go_sem]
    | 15, ho =>
      have ho2 := Option.some.inj ho; clear ho; subst ho2
      have r41 : a.tmps.getD 41 undef = .pointer (some ⟨Bn, 5, none⟩) := (hk 41 (Flow.mem_looks (by kernel_rfl))).by_ 14 (by kernel_rfl) (by decide)
      have r40 : a.tmps.getD 40 undef = .bool true := (hk 40 (Flow.mem_looks (by kernel_rfl))).by_ 13 (by kernel_rfl) (by decide)
      rw [if_pos (Flow.wanted_by (t := 40) rfl (by kernel_rfl) r40)]
      have h6 : w.cell? ⟨Bn, 5, none⟩ = some (.int .i64 2) := (HN.out.below hw) 5 (by rw [Ask.cells_length]; decide)
      refine Flow.step_value (v := .int .i64 2) ?_ ⟨Below.refl _ _, rfl⟩
      simp [execOp, Act.eval, r41, h6, go_sem]
    | 16, ho =>
      have ho2 := Option.some.inj ho; clear ho; subst ho2
      have r42 : a.tmps.getD 42 undef = .int .i64 2 := (hk 42 (Flow.mem_looks (by kernel_rfl))).by_ 15 (by kernel_rfl) (by decide)
      have r40 : a.tmps.getD 40 undef = .bool true := (hk 40 (Flow.mem_looks (by kernel_rfl))).by_ 13 (by kernel_rfl) (by decide)
      rw [if_pos (Flow.wanted_by (t := 40) rfl (by kernel_rfl) r40)]
      refine Flow.step_value (v := .bool true) ?_ ⟨Below.refl _ _, rfl⟩
      simp [execOp, Act.eval, r42, go_sem]
    | 17, ho =>
      have ho2 := Option.some.inj ho; clear ho; subst ho2
      have r40 : a.tmps.getD 40 undef = .bool true := (hk 40 (Flow.mem_looks (by kernel_rfl))).by_ 13 (by kernel_rfl) (by decide)
      have r43 : a.tmps.getD 43 undef = .bool true := (hk 43 (Flow.mem_looks (by kernel_rfl))).by_ 16 (by kernel_rfl) (by decide)
      rw [if_pos (Flow.wanted_free rfl _)]
      refine Flow.step_value (v := .bool true) ?_ ⟨Below.refl _ _, rfl⟩
      simp [execOp, Act.eval, r40, r43, go_sem]
    | 18, ho =>
      have ho2 := Option.some.inj ho; clear ho; subst ho2
      have r44 : a.tmps.getD 44 undef = .bool true := (hk 44 (Flow.mem_looks (by kernel_rfl))).by_ 17 (by kernel_rfl) (by decide)
      rw [if_pos (Flow.wanted_free rfl _)]
      refine Flow.step_value (v := .bool true) ?_ ⟨Below.refl _ _, rfl⟩
      simp [execOp, Act.eval, r44, go_sem]
    | 19, ho =>
      have ho2 := Option.some.inj ho; clear ho; subst ho2
      have r1 : a.tmps.getD 1 undef = .slice (some ⟨s, 0, none⟩) 3 3 := (hk 1 (Flow.mem_looks (by kernel_rfl))).before (by kernel_rfl)
      have r45 : a.tmps.getD 45 undef = .bool true := (hk 45 (Flow.mem_looks (by kernel_rfl))).by_ 18 (by kernel_rfl) (by decide)
      rw [if_pos (Flow.wanted_by (t := 45) rfl (by kernel_rfl) r45)]
      refine Flow.step_value (v := .slice (some ⟨s, 0, none⟩) 3 3) ?_ ⟨Below.refl _ _, rfl⟩
      simp [execOp, Act.eval, r1, go_sem]
    | 20, ho =>
      have ho2 := Option.some.inj ho; clear ho; subst ho2
      have r3 : a.tmps.getD 3 undef = .pointer (some ⟨Bn, 0, none⟩) := (hk 3 (Flow.mem_looks (by kernel_rfl))).before (by kernel_rfl)
      have r45 : a.tmps.getD 45 undef = .bool true := (hk 45 (Flow.mem_looks (by kernel_rfl))).by_ 18 (by kernel_rfl) (by decide)
      rw [if_pos (Flow.wanted_by (t := 45) rfl (by kernel_rfl) r45)]
      refine step_load_mid 31 (.tmp 3) rfl Bn 0 r3 n0.cells _ (HN.out.below hw).range Try.underlying31 rfl (ask_info n0) ⟨Below.refl _ _, rfl⟩
    | 21, ho =>
      have ho2 := Option.some.inj ho; clear ho; subst ho2
      have r46 : a.tmps.getD 46 undef = .slice (some ⟨s, 0, none⟩) 3 3 := (hk 46 (Flow.mem_looks (by kernel_rfl))).by_ 19 (by kernel_rfl) (by decide)
      have r47 : a.tmps.getD 47 undef = .agg n0.cells.toArray := (hk 47 (Flow.mem_looks (by kernel_rfl))).by_ 20 (by kernel_rfl) (by decide)
      have r45 : a.tmps.getD 45 undef = .bool true := (hk 45 (Flow.mem_looks (by kernel_rfl))).by_ 18 (by kernel_rfl) (by decide)
      rw [if_pos (Flow.wanted_by (t := 45) rfl (by kernel_rfl) r45)]
      refine Flow.step_call (f := 16) (args := #[.slice (some ⟨s, 0, none⟩) 3 3, .agg n0.cells.toArray]) (by simp [execOp, Act.eval, r46, r47, go_sem]) ?_
      refine (run_any' (some ⟨s, 0, none⟩) 3 3 (LL A1 A2 A3) n0 w (HL.out.below hw) (by decide)).mono ?_
      rintro r w1 ⟨⟨v1, rfl, ho1⟩, hb1⟩
      rw [run_n] at ho1
      obtain ⟨A1, c1, rfl, hr1, _⟩ := ho1.rd
      exact ⟨_, rfl, hb1, A1, c1, rfl, hr1⟩
    | 22, ho =>
      have ho2 := Option.some.inj ho; clear ho; subst ho2
      have r45 : a.tmps.getD 45 undef = .bool true := (hk 45 (Flow.mem_looks (by kernel_rfl))).by_ 18 (by kernel_rfl) (by decide)
      rw [if_pos (Flow.wanted_by (t := 45) rfl (by kernel_rfl) r45)]
      refine step_run (v := .slice (some ⟨w.heap.size, 0, none⟩) 1 1) (w' := w.alloc (.cells ([9].map (Value.int .i64)).toArray 2)) (by simp [execOp, Act.eval, go_sem]) ⟨(Below.refl _ _).alloc (Nat.le_refl _) _, _, _, rfl, Rd.lit w .i64 2 [9] (by decide)⟩
    | 23, ho =>
      have ho2 := Option.some.inj ho; clear ho; subst ho2
      have r48 := (hk 48 (Flow.mem_looks (by kernel_rfl))).by_ 21 (by kernel_rfl) (by decide)
      have r49 := (hk 49 (Flow.mem_looks (by kernel_rfl))).by_ 22 (by kernel_rfl) (by decide)
      have r45 : a.tmps.getD 45 undef = .bool true := (hk 45 (Flow.mem_looks (by kernel_rfl))).by_ 18 (by kernel_rfl) (by decide)
      rw [if_pos (Flow.wanted_by (t := 45) rfl (by kernel_rfl) r45)]
      obtain ⟨A1, c1, e1, hr1⟩ := r48
      obtain ⟨A2, c2, e2, hr2⟩ := r49
      refine Flow.step_call (f := 15) (args := #[.slice A1 1 c1, .slice A2 1 c2]) (by simp [execOp, Act.eval, e1, e2, go_sem]) ?_
      refine (sameIds_any A1 A2 1 c1 1 c2 _ _ w hr1 hr2).mono ?_
      rintro r w1 ⟨rfl, hb1⟩
      exact ⟨_, rfl, hb1, congrArg Value.bool (by decide)⟩
    | 24, ho =>
      have ho2 := Option.some.inj ho; clear ho; subst ho2
      have r45 : a.tmps.getD 45 undef = .bool true := (hk 45 (Flow.mem_looks (by kernel_rfl))).by_ 18 (by kernel_rfl) (by decide)
      have r50 : a.tmps.getD 50 undef = .bool true := (hk 50 (Flow.mem_looks (by kernel_rfl))).by_ 23 (by kernel_rfl) (by decide)
      rw [if_pos (Flow.wanted_free rfl _)]
      refine Flow.step_value (v := .bool true) ?_ ⟨Below.refl _ _, rfl⟩
      simp [execOp, Act.eval, r45, r50, go_sem]
    | 25, ho =>
      have ho2 := Option.some.inj ho; clear ho; subst ho2
      have r51 : a.tmps.getD 51 undef = .bool true := (hk 51 (Flow.mem_looks (by kernel_rfl))).by_ 24 (by kernel_rfl) (by decide)
      rw [if_pos (Flow.wanted_free rfl _)]
      refine Flow.step_value (v := .bool true) ?_ ⟨Below.refl _ _, rfl⟩
      simp [execOp, Act.eval, r51, go_sem]
    | 26, ho =>
      have ho2 := Option.some.inj ho; clear ho; subst ho2
      have r6 : a.tmps.getD 6 undef = .bool false := (hk 6 (Flow.mem_looks (by kernel_rfl))).before (by kernel_rfl)
      have r52 : a.tmps.getD 52 undef = .bool true := (hk 52 (Flow.mem_looks (by kernel_rfl))).by_ 25 (by kernel_rfl) (by decide)
      rw [if_pos (Flow.wanted_by (t := 52) rfl (by kernel_rfl) r52)]
      refine Flow.step_value (v := .bool false) ?_ ⟨Below.refl _ _, rfl⟩
      simp [execOp, Act.eval, r6, go_sem]
    | 27, ho =>
      have ho2 := Option.some.inj ho; clear ho; subst ho2
      have r53 : a.tmps.getD 53 undef = .bool false := (hk 53 (Flow.mem_looks (by kernel_rfl))).by_ 26 (by kernel_rfl) (by decide)
      have r52 : a.tmps.getD 52 undef = .bool true := (hk 52 (Flow.mem_looks (by kernel_rfl))).by_ 25 (by kernel_rfl) (by decide)
      rw [if_pos (Flow.wanted_by (t := 52) rfl (by kernel_rfl) r52)]
      refine Flow.step_value (v := .bool true) ?_ ⟨Below.refl _ _, rfl⟩
      simp [execOp, Act.eval, r53, go_sem]
    | 28, ho =>
      have ho2 := Option.some.inj ho; clear ho; subst ho2
      have r52 : a.tmps.getD 52 undef = .bool true := (hk 52 (Flow.mem_looks (by kernel_rfl))).by_ 25 (by kernel_rfl) (by decide)
      have r54 : a.tmps.getD 54 undef = .bool true := (hk 54 (Flow.mem_looks (by kernel_rfl))).by_ 27 (by kernel_rfl) (by decide)
      rw [if_pos (Flow.wanted_free rfl _)]
      refine Flow.step_value (v := .bool true) ?_ ⟨Below.refl _ _, rfl⟩
      simp [execOp, Act.eval, r52, r54, go_sem]
    | 29, ho =>
      have ho2 := Option.some.inj ho; clear ho; subst ho2
      have r55 : a.tmps.getD 55 undef = .bool true := (hk 55 (Flow.mem_looks (by kernel_rfl))).by_ 28 (by kernel_rfl) (by decide)
      rw [if_pos (Flow.wanted_free rfl _)]
      refine Flow.step_value (v := .bool true) ?_ ⟨Below.refl _ _, rfl⟩
      simp [execOp, Act.eval, r55, go_sem]
    | 30, ho =>
      have ho2 := Option.some.inj ho; clear ho; subst ho2
      have r5 : a.tmps.getD 5 undef = .pointer (some ⟨Bm, 0, none⟩) := (hk 5 (Flow.mem_looks (by kernel_rfl))).before (by kernel_rfl)
      have r56 : a.tmps.getD 56 undef = .bool true := (hk 56 (Flow.mem_looks (by kernel_rfl))).by_ 29 (by kernel_rfl) (by decide)
      rw [if_pos (Flow.wanted_by (t := 56) rfl (by kernel_rfl) r56)]
      refine step_load_mid 31 (.tmp 5) rfl Bm 0 r5 Ask.zero.cells _ (HM.out.below hw).range Try.underlying31 rfl (ask_info Ask.zero) ⟨Below.refl _ _, rfl⟩
    | 31, ho =>
      have ho2 := Option.some.inj ho; clear ho; subst ho2
      have r56 : a.tmps.getD 56 undef = .bool true := (hk 56 (Flow.mem_looks (by kernel_rfl))).by_ 29 (by kernel_rfl) (by decide)
      rw [if_pos (Flow.wanted_by (t := 56) rfl (by kernel_rfl) r56)]
      refine Flow.step_value (v := .agg Ask.zero.cells.toArray) ?_ ⟨Below.refl _ _, rfl⟩
      simp [execOp, Act.eval, Ask.zero, Ask.cells, go_sem]
    | 32, ho =>
      have ho2 := Option.some.inj ho; clear ho; subst ho2
      have r57 : a.tmps.getD 57 undef = .agg Ask.zero.cells.toArray := (hk 57 (Flow.mem_looks (by kernel_rfl))).by_ 30 (by kernel_rfl) (by decide)
      have r58 : a.tmps.getD 58 undef = .agg Ask.zero.cells.toArray := (hk 58 (Flow.mem_looks (by kernel_rfl))).by_ 31 (by kernel_rfl) (by decide)
      have r56 : a.tmps.getD 56 undef = .bool true := (hk 56 (Flow.mem_looks (by kernel_rfl))).by_ 29 (by kernel_rfl) (by decide)
      rw [if_pos (Flow.wanted_by (t := 56) rfl (by kernel_rfl) r56)]
      refine Flow.step_value (v := .bool true) ?_ ⟨Below.refl _ _, rfl⟩
      simp [execOp, Act.eval, r57, r58, Ask.zero, Ask.cells, go_sem]
    | 33, ho =>
      have ho2 := Option.some.inj ho; clear ho; subst ho2
      have r56 : a.tmps.getD 56 undef = .bool true := (hk 56 (Flow.mem_looks (by kernel_rfl))).by_ 29 (by kernel_rfl) (by decide)
      have r59 : a.tmps.getD 59 undef = .bool true := (hk 59 (Flow.mem_looks (by kernel_rfl))).by_ 32 (by kernel_rfl) (by decide)
      rw [if_pos (Flow.wanted_free rfl _)]
      refine Flow.step_value (v := .bool true) ?_ ⟨Below.refl _ _, rfl⟩
      simp [execOp, Act.eval, r56, r59, go_sem]
    | 34, ho =>
      have ho2 := Option.some.inj ho; clear ho; subst ho2
      have r60 : a.tmps.getD 60 undef = .bool true := (hk 60 (Flow.mem_looks (by kernel_rfl))).by_ 33 (by kernel_rfl) (by decide)
      rw [if_pos (Flow.wanted_free rfl _)]
      refine Flow.step_value (v := .bool true) ?_ ⟨Below.refl _ _, rfl⟩
      simp [execOp, Act.eval, r60, go_sem]
    | 35, ho =>
      have ho2 := Option.some.inj ho; clear ho; subst ho2
      have r1 : a.tmps.getD 1 undef = .slice (some ⟨s, 0, none⟩) 3 3 := (hk 1 (Flow.mem_looks (by kernel_rfl))).before (by kernel_rfl)
      have r61 : a.tmps.getD 61 undef = .bool true := (hk 61 (Flow.mem_looks (by kernel_rfl))).by_ 34 (by kernel_rfl) (by decide)
      rw [if_pos (Flow.wanted_by (t := 61) rfl (by kernel_rfl) r61)]
      refine Flow.step_value (v := .slice (some ⟨s, 0, none⟩) 3 3) ?_ ⟨Below.refl _ _, rfl⟩
      simp [execOp, Act.eval, r1, go_sem]
    | 36, ho =>
      have ho2 := Option.some.inj ho; clear ho; subst ho2
      have r7 : a.tmps.getD 7 undef = .pointer (some ⟨Bb, 0, none⟩) := (hk 7 (Flow.mem_looks (by kernel_rfl))).before (by kernel_rfl)
      have r61 : a.tmps.getD 61 undef = .bool true := (hk 61 (Flow.mem_looks (by kernel_rfl))).by_ 34 (by kernel_rfl) (by decide)
      rw [if_pos (Flow.wanted_by (t := 61) rfl (by kernel_rfl) r61)]
      refine step_load_mid 31 (.tmp 7) rfl Bb 0 r7 b0.cells _ (HBB.out.below hw).range Try.underlying31 rfl (ask_info b0) ⟨Below.refl _ _, rfl⟩
    | 37, ho =>
      have ho2 := Option.some.inj ho; clear ho; subst ho2
      have r62 : a.tmps.getD 62 undef = .slice (some ⟨s, 0, none⟩) 3 3 := (hk 62 (Flow.mem_looks (by kernel_rfl))).by_ 35 (by kernel_rfl) (by decide)
      have r63 : a.tmps.getD 63 undef = .agg b0.cells.toArray := (hk 63 (Flow.mem_looks (by kernel_rfl))).by_ 36 (by kernel_rfl) (by decide)
      have r61 : a.tmps.getD 61 undef = .bool true := (hk 61 (Flow.mem_looks (by kernel_rfl))).by_ 34 (by kernel_rfl) (by decide)
      rw [if_pos (Flow.wanted_by (t := 61) rfl (by kernel_rfl) r61)]
      refine Flow.step_call (f := 16) (args := #[.slice (some ⟨s, 0, none⟩) 3 3, .agg b0.cells.toArray]) (by simp [execOp, Act.eval, r62, r63, go_sem]) ?_
      refine (run_any' (some ⟨s, 0, none⟩) 3 3 (LL A1 A2 A3) b0 w (HL.out.below hw) (by decide)).mono ?_
      rintro r w1 ⟨⟨v1, rfl, ho1⟩, hb1⟩
      rw [run_b] at ho1
      obtain ⟨A1, c1, rfl, hr1, _⟩ := ho1.rd
      exact ⟨_, rfl, hb1, A1, c1, rfl, hr1⟩
    | 38, ho =>
      have ho2 := Option.some.inj ho; clear ho; subst ho2
      have r64 := (hk 64 (Flow.mem_looks (by kernel_rfl))).by_ 37 (by kernel_rfl) (by decide)
      have r61 : a.tmps.getD 61 undef = .bool true := (hk 61 (Flow.mem_looks (by kernel_rfl))).by_ 34 (by kernel_rfl) (by decide)
      rw [if_pos (Flow.wanted_by (t := 61) rfl (by kernel_rfl) r61)]
      obtain ⟨A1, c1, e1, hr1⟩ := r64
      refine Flow.step_value (v := .int .i64 0) ?_ ⟨Below.refl _ _, rfl⟩
      simp [execOp, Act.eval, e1, go_sem]
    | 39, ho =>
      have ho2 := Option.some.inj ho; clear ho; subst ho2
      have r65 : a.tmps.getD 65 undef = .int .i64 0 := (hk 65 (Flow.mem_looks (by kernel_rfl))).by_ 38 (by kernel_rfl) (by decide)
      have r61 : a.tmps.getD 61 undef = .bool true := (hk 61 (Flow.mem_looks (by kernel_rfl))).by_ 34 (by kernel_rfl) (by decide)
      rw [if_pos (Flow.wanted_by (t := 61) rfl (by kernel_rfl) r61)]
      refine Flow.step_value (v := .bool true) ?_ ⟨Below.refl _ _, rfl⟩
      simp [execOp, Act.eval, r65, go_sem]
    | 40, ho =>
      have ho2 := Option.some.inj ho; clear ho; subst ho2
      have r61 : a.tmps.getD 61 undef = .bool true := (hk 61 (Flow.mem_looks (by kernel_rfl))).by_ 34 (by kernel_rfl) (by decide)
      have r66 : a.tmps.getD 66 undef = .bool true := (hk 66 (Flow.mem_looks (by kernel_rfl))).by_ 39 (by kernel_rfl) (by decide)
      rw [if_pos (Flow.wanted_free rfl _)]
      refine Flow.step_value (v := .bool true) ?_ ⟨Below.refl _ _, rfl⟩
      simp [execOp, Act.eval, r61, r66, go_sem]
    | 41, ho =>
      have ho2 := Option.some.inj ho; clear ho; subst ho2
      have r67 : a.tmps.getD 67 undef = .bool true := (hk 67 (Flow.mem_looks (by kernel_rfl))).by_ 40 (by kernel_rfl) (by decide)
      rw [if_pos (Flow.wanted_free rfl _)]
      refine Flow.step_value (v := .bool true) ?_ ⟨Below.refl _ _, rfl⟩
      simp [execOp, Act.eval, r67, go_sem]
    | 42, ho =>
      have ho2 := Option.some.inj ho; clear ho; subst ho2
      have r1 : a.tmps.getD 1 undef = .slice (some ⟨s, 0, none⟩) 3 3 := (hk 1 (Flow.mem_looks (by kernel_rfl))).before (by kernel_rfl)
      have r68 : a.tmps.getD 68 undef = .bool true := (hk 68 (Flow.mem_looks (by kernel_rfl))).by_ 41 (by kernel_rfl) (by decide)
      rw [if_pos (Flow.wanted_by (t := 68) rfl (by kernel_rfl) r68)]
      refine Flow.step_value (v := .slice (some ⟨s, 0, none⟩) 3 3) ?_ ⟨Below.refl _ _, rfl⟩
      simp [execOp, Act.eval, r1, go_sem]
    | 43, ho =>
      have ho2 := Option.some.inj ho; clear ho; subst ho2
      have r69 : a.tmps.getD 69 undef = .slice (some ⟨s, 0, none⟩) 3 3 := (hk 69 (Flow.mem_looks (by kernel_rfl))).by_ 42 (by kernel_rfl) (by decide)
      have r68 : a.tmps.getD 68 undef = .bool true := (hk 68 (Flow.mem_looks (by kernel_rfl))).by_ 41 (by kernel_rfl) (by decide)
      rw [if_pos (Flow.wanted_by (t := 68) rfl (by kernel_rfl) r68)]
      refine Flow.step_value (v := .pointer (some ⟨s, 0, none⟩)) ?_ ⟨Below.refl _ _, rfl⟩
      simp [execOp, Act.eval, r69, add_off, go_sem]
    | 44, ho =>
      have ho2 := Option.some.inj ho; clear ho; subst ho2
      have r70 : a.tmps.getD 70 undef = .pointer (some ⟨s, 0, none⟩) := (hk 70 (Flow.mem_looks (by kernel_rfl))).by_ 43 (by kernel_rfl) (by decide)
      have r68 : a.tmps.getD 68 undef = .bool true := (hk 68 (Flow.mem_looks (by kernel_rfl))).by_ 41 (by kernel_rfl) (by decide)
      rw [if_pos (Flow.wanted_by (t := 68) rfl (by kernel_rfl) r68)]
      refine step_load_mid 29 (.tmp 70) rfl s 0 r70 E1.cells _ (HE1.out.below hw).range Try.underlying29 rfl (ent_info E1) ⟨Below.refl _ _, rfl⟩
    | 45, ho =>
      have ho2 := Option.some.inj ho; clear ho; subst ho2
      have r2 : a.tmps.getD 2 undef = .pointer (some ⟨Ba, 0, none⟩) := (hk 2 (Flow.mem_looks (by kernel_rfl))).before (by kernel_rfl)
      have r68 : a.tmps.getD 68 undef = .bool true := (hk 68 (Flow.mem_looks (by kernel_rfl))).by_ 41 (by kernel_rfl) (by decide)
      rw [if_pos (Flow.wanted_by (t := 68) rfl (by kernel_rfl) r68)]
      refine step_load_mid 31 (.tmp 2) rfl Ba 0 r2 a0.cells _ (HA.out.below hw).range Try.underlying31 rfl (ask_info a0) ⟨Below.refl _ _, rfl⟩
    | 46, ho =>
      have ho2 := Option.some.inj ho; clear ho; subst ho2
      have r71 : a.tmps.getD 71 undef = .agg E1.cells.toArray := (hk 71 (Flow.mem_looks (by kernel_rfl))).by_ 44 (by kernel_rfl) (by decide)
      have r72 : a.tmps.getD 72 undef = .agg a0.cells.toArray := (hk 72 (Flow.mem_looks (by kernel_rfl))).by_ 45 (by kernel_rfl) (by decide)
      have r68 : a.tmps.getD 68 undef = .bool true := (hk 68 (Flow.mem_looks (by kernel_rfl))).by_ 41 (by kernel_rfl) (by decide)
      rw [if_pos (Flow.wanted_by (t := 68) rfl (by kernel_rfl) r68)]
      refine Flow.step_call (f := 13) (args := #[.agg E1.cells.toArray, .agg a0.cells.toArray]) (by simp [execOp, Act.eval, r71, r72, go_sem]) ?_
      refine (fits_any E1 a0 w (HR1.out.below hw)).mono ?_
      rintro r w1 ⟨rfl, hb1⟩
      exact ⟨_, rfl, hb1, congrArg Value.bool HF1.out⟩
    | 47, ho =>
      have ho2 := Option.some.inj ho; clear ho; subst ho2
      have r68 : a.tmps.getD 68 undef = .bool true := (hk 68 (Flow.mem_looks (by kernel_rfl))).by_ 41 (by kernel_rfl) (by decide)
      have r73 : a.tmps.getD 73 undef = .bool true := (hk 73 (Flow.mem_looks (by kernel_rfl))).by_ 46 (by kernel_rfl) (by decide)
      rw [if_pos (Flow.wanted_free rfl _)]
      refine Flow.step_value (v := .bool true) ?_ ⟨Below.refl _ _, rfl⟩
      simp [execOp, Act.eval, r68, r73, go_sem]
    | 48, ho =>
      have ho2 := Option.some.inj ho; clear ho; subst ho2
      have r74 : a.tmps.getD 74 undef = .bool true := (hk 74 (Flow.mem_looks (by kernel_rfl))).by_ 47 (by kernel_rfl) (by decide)
      rw [if_pos (Flow.wanted_free rfl _)]
      refine Flow.step_value (v := .bool true) ?_ ⟨Below.refl _ _, rfl⟩
      simp [execOp, Act.eval, r74, go_sem]
    | 49, ho =>
      have ho2 := Option.some.inj ho; clear ho; subst ho2
      have r1 : a.tmps.getD 1 undef = .slice (some ⟨s, 0, none⟩) 3 3 := (hk 1 (Flow.mem_looks (by kernel_rfl))).before (by kernel_rfl)
      have r75 : a.tmps.getD 75 undef = .bool true := (hk 75 (Flow.mem_looks (by kernel_rfl))).by_ 48 (by kernel_rfl) (by decide)
      rw [if_pos (Flow.wanted_by (t := 75) rfl (by kernel_rfl) r75)]
      refine Flow.step_value (v := .slice (some ⟨s, 0, none⟩) 3 3) ?_ ⟨Below.refl _ _, rfl⟩
      simp [execOp, Act.eval, r1, go_sem]
    | 50, ho =>
      have ho2 := Option.some.inj ho; clear ho; subst ho2
      have r76 : a.tmps.getD 76 undef = .slice (some ⟨s, 0, none⟩) 3 3 := (hk 76 (Flow.mem_looks (by kernel_rfl))).by_ 49 (by kernel_rfl) (by decide)
      have r75 : a.tmps.getD 75 undef = .bool true := (hk 75 (Flow.mem_looks (by kernel_rfl))).by_ 48 (by kernel_rfl) (by decide)
      rw [if_pos (Flow.wanted_by (t := 75) rfl (by kernel_rfl) r75)]
      refine Flow.step_value (v := .pointer (some ⟨s, 0, none⟩)) ?_ ⟨Below.refl _ _, rfl⟩
      simp [execOp, Act.eval, r76, add_off, go_sem]
    | 51, ho =>
      have ho2 := Option.some.inj ho; clear ho; subst ho2
      have r77 : a.tmps.getD 77 undef = .pointer (some ⟨s, 0, none⟩) := (hk 77 (Flow.mem_looks (by kernel_rfl))).by_ 50 (by kernel_rfl) (by decide)
      have r75 : a.tmps.getD 75 undef = .bool true := (hk 75 (Flow.mem_looks (by kernel_rfl))).by_ 48 (by kernel_rfl) (by decide)
      rw [if_pos (Flow.wanted_by (t := 75) rfl (by kernel_rfl) r75)]
      refine step_load_mid 29 (.tmp 77) rfl s 0 r77 E1.cells _ (HE1.out.below hw).range Try.underlying29 rfl (ent_info E1) ⟨Below.refl _ _, rfl⟩
    | 52, ho =>
      have ho2 := Option.some.inj ho; clear ho; subst ho2
      have r3 : a.tmps.getD 3 undef = .pointer (some ⟨Bn, 0, none⟩) := (hk 3 (Flow.mem_looks (by kernel_rfl))).before (by kernel_rfl)
      have r75 : a.tmps.getD 75 undef = .bool true := (hk 75 (Flow.mem_looks (by kernel_rfl))).by_ 48 (by kernel_rfl) (by decide)
      rw [if_pos (Flow.wanted_by (t := 75) rfl (by kernel_rfl) r75)]
      refine step_load_mid 31 (.tmp 3) rfl Bn 0 r3 n0.cells _ (HN.out.below hw).range Try.underlying31 rfl (ask_info n0) ⟨Below.refl _ _, rfl⟩
    | 53, ho =>
      have ho2 := Option.some.inj ho; clear ho; subst ho2
      have r78 : a.tmps.getD 78 undef = .agg E1.cells.toArray := (hk 78 (Flow.mem_looks (by kernel_rfl))).by_ 51 (by kernel_rfl) (by decide)
      have r79 : a.tmps.getD 79 undef = .agg n0.cells.toArray := (hk 79 (Flow.mem_looks (by kernel_rfl))).by_ 52 (by kernel_rfl) (by decide)
      have r75 : a.tmps.getD 75 undef = .bool true := (hk 75 (Flow.mem_looks (by kernel_rfl))).by_ 48 (by kernel_rfl) (by decide)
      rw [if_pos (Flow.wanted_by (t := 75) rfl (by kernel_rfl) r75)]
      refine Flow.step_call (f := 13) (args := #[.agg E1.cells.toArray, .agg n0.cells.toArray]) (by simp [execOp, Act.eval, r78, r79, go_sem]) ?_
      refine (fits_any E1 n0 w (HR1.out.below hw)).mono ?_
      rintro r w1 ⟨rfl, hb1⟩
      exact ⟨_, rfl, hb1, congrArg Value.bool HF2.out⟩
    | 54, ho =>
      have ho2 := Option.some.inj ho; clear ho; subst ho2
      have r80 : a.tmps.getD 80 undef = .bool false := (hk 80 (Flow.mem_looks (by kernel_rfl))).by_ 53 (by kernel_rfl) (by decide)
      have r75 : a.tmps.getD 75 undef = .bool true := (hk 75 (Flow.mem_looks (by kernel_rfl))).by_ 48 (by kernel_rfl) (by decide)
      rw [if_pos (Flow.wanted_by (t := 75) rfl (by kernel_rfl) r75)]
      refine Flow.step_value (v := .bool true) ?_ ⟨Below.refl _ _, rfl⟩
      simp [execOp, Act.eval, r80, go_sem]
    | 55, ho =>
      have ho2 := Option.some.inj ho; clear ho; subst ho2
      have r75 : a.tmps.getD 75 undef = .bool true := (hk 75 (Flow.mem_looks (by kernel_rfl))).by_ 48 (by kernel_rfl) (by decide)
      have r81 : a.tmps.getD 81 undef = .bool true := (hk 81 (Flow.mem_looks (by kernel_rfl))).by_ 54 (by kernel_rfl) (by decide)
      rw [if_pos (Flow.wanted_free rfl _)]
      refine Flow.step_value (v := .bool true) ?_ ⟨Below.refl _ _, rfl⟩
      simp [execOp, Act.eval, r75, r81, go_sem]
    | 56, ho =>
      have ho2 := Option.some.inj ho; clear ho; subst ho2
      have r82 : a.tmps.getD 82 undef = .bool true := (hk 82 (Flow.mem_looks (by kernel_rfl))).by_ 55 (by kernel_rfl) (by decide)
      rw [if_pos (Flow.wanted_free rfl _)]
      refine Flow.step_value (v := .bool true) ?_ ⟨Below.refl _ _, rfl⟩
      simp [execOp, Act.eval, r82, go_sem]
    | _ + 57, ho => exact absurd ho (by simp)
  case fin =>
    intro a4 w4 hw4 hd4 hs4 hg4 hold
    have r := hg4 56 _ 0 rfl rfl
    refine (‹∀ (a : Act) (w : World), Code.wp _ Code.ret _ a w → _›) _ _ ?_
    refine wp_ret ?_
    refine bodyPost_ret (results_tmp rfl _ _ _) hd4 ⟨congrArg Ending.returned r, below_trans B11.out hw4 B11.out.size⟩
end Go.Proofs.Ytbfnjfmnblafaaa.Qry
