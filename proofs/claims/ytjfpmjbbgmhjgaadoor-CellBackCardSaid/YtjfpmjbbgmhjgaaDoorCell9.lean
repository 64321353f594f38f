/- turntableref08.Get -/
import Derived.Test.YtjfpmjbbgmhjgaaDoorCell8
namespace Go.Proofs.YtjfpmjbbgmhjgaaDoor.Crc
open Go.RowKit CrcMath

theorem sector_bytes {q p : Int} {l : List Int} (h : l.length ≤ 59) (hb : Bytes l) : Bytes (sector q p l) := by
  intro x hx
  rcases List.mem_append.1 hx with h1 | h1
  · exact body_bytes h hb x h1
  · exact le_bytes _ x h1
theorem put_bytes {q p : Int} {l : List Int} (hb : Bytes l) : Bytes (put q p l) := by
  unfold put
  split
  · rename_i h; exact sector_bytes h.2 hb
  · exact fun _ h => by cases h
theorem part_bytes {l : List Int} (h : Bytes l) : Bytes (part l) := fun x hx => h x (List.mem_of_mem_drop (List.mem_of_mem_take hx))
def G10 (q p : Int) (ad : Addr) (c : Nat) (A8 : Option Addr) (u c8 : Nat) (l U : List Int) (b : Bool) : Nat → Value → World → Prop
  | 0 => fun v _ => v = .int .i64 q
  | 1 => fun v _ => v = .int .i64 p
  | 2 => fun v _ => v = .slice A8 u c8
  | 3 => fun v w => ∃ A1 c1, v = .slice A1 (put q p U).length c1 ∧ Rd w .u8 A1 (put q p U).length c1 (put q p U)
  | 4 => fun v _ => v = .string (strOfNums (put q p U))
  | 5 => fun v _ => v = .slice (some ad) 64 c
  | 6 => fun v _ => v = .string (strOfNums l)
  | 7 => fun v _ => v = .bool (!b)
  | _ => fun _ _ => True
theorem G10_stable (q p : Int) (ad : Addr) (c : Nat) (A8 : Option Addr) (u c8 : Nat) (l U : List Int) (b : Bool) : ∀ i v w w', G10 q p ad c A8 u c8 l U b i v w → Below w.heap.size w w' → G10 q p ad c A8 u c8 l U b i v w' := by
  intro i v w w' h hb
  match i, h with
  | 0, h => exact h
  | 1, h => exact h
  | 2, h => exact h
  | 3, h => exact (by obtain ⟨A1, c1, e, hr⟩ := h; exact ⟨A1, c1, e, hr.below hb⟩)
  | 4, h => exact h
  | 5, h => exact h
  | 6, h => exact h
  | 7, h => exact h
  | _ + 8, _ => exact trivial
set_option maxHeartbeats 4000000 in
set_option maxRecDepth 100000 in
theorem refget_any (A : Option Addr) (n c : Nat) (l : List Int) (q p : Int) (w : World) (hr : Rd w .u8 A n c l) (hb : Bytes l) :
    Calls Tryd.prog 10 #[.slice A n c, .int .i64 q, .int .i64 p] w (GetPost w (gets q p l) (getv q p l)) := by
  have hcap := hr.small
  have hle := hr.le
  have R := Lib.hid hr
  have Y := Lib.hid hb
  have L := Lib.hid hr.len
  clear hr hb
  by_cases h64 : n = 64
  · subst h64
    obtain ⟨ad, hAd, hc0⟩ := R.out.cell 0 (by decide)
    rw [addr_add0] at hc0
    have HAd := Lib.hid hAd
    obtain ⟨y, hy⟩ : ∃ y, y = l.getD 0 0 := ⟨_, rfl⟩
    rw [← hy] at hc0
    have HY := Lib.hid hy
    have hyb : 0 ≤ y ∧ y < 256 := by
      have hl := L.out
      rw [hy, List.getD_eq_getElem?_getD, List.getElem?_eq_getElem (by omega)]
      exact Y.out _ (List.getElem_mem _)
    clear hy
    by_cases h59 : 59 < y
    · have hdd : decide (59 < y) = true := decide_eq_true h59
      go_enter Tryd.func10, Tryd.ntmps10
      go_wp2
      refine bodyPost_ret (results_tmp2 rfl _ _ _) rfl ?_
      refine get_none ?_ w
      unfold gets
      refine decide_eq_false fun h => ?_
      have := h.2.1
      rw [← HY.out] at this
      omega
    · have hdd : decide (59 < y) = false := decide_eq_false h59
      obtain ⟨u, rfl⟩ := Int.eq_ofNat_of_zero_le hyb.1
      have hu : u ≤ 59 := by omega
      have hy0 : l.getD 0 0 = (u : Int) := HY.out.symm
      obtain ⟨U, hU⟩ : ∃ U, U = part l := ⟨_, rfl⟩
      have hUl : U.length = u := by rw [hU, part, hy0, List.length_take, List.length_drop, L.out]; omega
      obtain ⟨A1, hA1, hrd⟩ : ∃ A1, sliced A 1 (1 + u) c 1 = .slice A1 u (c - 1) ∧ Rd w .u8 A1 u (c - 1) U := by
        refine ⟨_, by unfold sliced; rw [Nat.add_sub_cancel_left], ?_⟩
        rw [if_neg (by omega), hAd]
        obtain ⟨b, o, rfl, hc⟩ := R.out.spot _ hAd (by decide)
        refine ⟨hUl, by omega, by omega, (fun h => by cases h), fun ad e2 h0 => ?_⟩
        simp only [Option.map_some, Option.some.injEq, Nat.mul_one, add_off] at e2
        refine ⟨b, o + 1, e2.symm, fun j hj => ?_⟩
        rw [Nat.add_assoc, hc _ (by omega), hU, part, hy0, List.getD_eq_getElem?_getD, List.getD_eq_getElem?_getD, List.getElem?_take, if_pos (by omega), List.getElem?_drop]
      have e1 : (1 : Int) ≤ 1 + (u : Int) := by omega
      have e2 : (1 : Int) + (u : Int) ≤ c := by omega
      have e3 : ((1 : Int) + (u : Int)).toNat = 1 + u := by omega
      have hcut : ∀ w', (Instr.slice 22 (.slice A 64 c) (some (.int .i64 1)) (some (.int .i64 (1 + (u : Int)))) none).run Tryd.prog w' = .ok (.slice A1 u (c - 1)) w' := by
        intro w'
        rw [← hA1]
        simp [go_sem, e1, e2, e3]
      have hcut1 := hcut (w.alloc (.cells #[] 5))
      obtain ⟨b, hb⟩ : ∃ b, b = decide (put q p U = l) := ⟨_, rfl⟩
      have hg : gets q p l = b := by
        rw [hb, hU]
        unfold gets
        exact decide_eq_decide.2 ⟨fun h => h.2.2, fun h => ⟨L.out, by rw [hy0]; omega, h⟩⟩
      have hv : getv q p l = if b = true then U else [] := by unfold getv; rw [hg, hU]
      have YU := Lib.hid (show Bytes U by rw [hU]; exact part_bytes Y.out)
      have TE : Hid (((strOfNums (put q p U)).toList == (strOfNums l).toList) = b) := Lib.hid (by rw [text_eq (put_bytes YU.out) Y.out, hb])
      have RD := Lib.hid hrd
      have HG := Lib.hid hg
      have HV := Lib.hid hv
      have UL := Lib.hid hUl
      clear hU hUl hA1 hrd hcut hb hg hv hy0 hAd
      have hc1 : (w.alloc (.cells #[] 5)).cell? ad = some (.int .u8 (u : Int)) := ((Below.refl w.heap.size w).alloc (Nat.le_refl _) (.cells #[] 5)).cell (World.block_lt_of_cell? w _ hc0) |>.trans hc0
      obtain rfl := HAd.out
      go_enter Tryd.func10, Tryd.ntmps10
      go_wp2_with (at_builtin; refine append_rd rfl (.tmp 18) (.tmp 25) rfl w.heap.size _ 0 [] rfl (Own.empty w .u8 5 (Nat.le_refl _)) A1 u (c - 1) U rfl (RD.out.below ((Below.refl _ _).alloc (Nat.le_refl _) _)) (by omega) (by simp) ?_; intro v1 w1 hown hg; obtain ⟨A8, c8, rfl, hr8, _⟩ := Own.rd hown; have O8 := Lib.hid hown; have R8' := Lib.hid hr8; have X1 := Lib.hid (below_grown ((Below.refl _ _).alloc (Nat.le_refl _) _) hg (by simp) (Own.empty w .u8 5 (Nat.le_refl _)).ge); clear hown hg hr8)
      have R8 : Hid (Rd w1 .u8 A8 u c8 U) := by have h1 := R8'.out; rw [Nat.zero_add, List.nil_append] at h1; exact Lib.hid h1
      have O8' : Hid (Own w1 .u8 5 w.heap.size (.slice A8 u c8) u U) := by have h1 := O8.out; rw [Nat.zero_add, List.nil_append] at h1; exact Lib.hid h1
      have RW := Lib.hid (R.out.below X1.out)
      clear O8 R8'
      try simp only [Nat.zero_add]
      refine Flow.wp_region_flow (by kernel_rfl) (G10 q p ad c A8 u c8 l U b) (by kernel_rfl) (G10_stable q p ad c A8 u c8 l U b) ?loc ?fin
      case loc =>
        intro i o ho a w hw hk
        match i, ho with
        | 0, ho =>
          have ho2 := Option.some.inj ho; clear ho; subst ho2
          have r1 : a.tmps.getD 1 undef = .int .i64 q := (hk 1 (Flow.mem_looks (by kernel_rfl))).before (by kernel_rfl)
          rw [if_pos (Flow.wanted_free rfl _)]
          refine Flow.step_value (v := .int .i64 q) ?_ ⟨Below.refl _ _, rfl⟩
          simp [execOp, Act.eval, r1, go_sem]
        | 1, ho =>
          have ho2 := Option.some.inj ho; clear ho; subst ho2
          have r2 : a.tmps.getD 2 undef = .int .i64 p := (hk 2 (Flow.mem_looks (by kernel_rfl))).before (by kernel_rfl)
          rw [if_pos (Flow.wanted_free rfl _)]
          refine Flow.step_value (v := .int .i64 p) ?_ ⟨Below.refl _ _, rfl⟩
          simp [execOp, Act.eval, r2, go_sem]
        | 2, ho =>
          have ho2 := Option.some.inj ho; clear ho; subst ho2
          have r8 : a.tmps.getD 8 undef = .slice A8 u c8 := (hk 8 (Flow.mem_looks (by kernel_rfl))).before (by kernel_rfl)
          rw [if_pos (Flow.wanted_free rfl _)]
          refine Flow.step_value (v := .slice A8 u c8) ?_ ⟨Below.refl _ _, rfl⟩
          simp [execOp, Act.eval, r8, go_sem]
        | 3, ho =>
          have ho2 := Option.some.inj ho; clear ho; subst ho2
          have r27 : a.tmps.getD 27 undef = .int .i64 q := (hk 27 (Flow.mem_looks (by kernel_rfl))).by_ 0 (by kernel_rfl) (by decide)
          have r28 : a.tmps.getD 28 undef = .int .i64 p := (hk 28 (Flow.mem_looks (by kernel_rfl))).by_ 1 (by kernel_rfl) (by decide)
          have r29 : a.tmps.getD 29 undef = .slice A8 u c8 := (hk 29 (Flow.mem_looks (by kernel_rfl))).by_ 2 (by kernel_rfl) (by decide)
          rw [if_pos (Flow.wanted_free rfl _)]
          refine Flow.step_call (f := 12) (args := #[.int .i64 q, .int .i64 p, .slice A8 u c8]) (by simp [execOp, Act.eval, r27, r28, r29, go_sem]) ?_
          refine (refput_any q p A8 u c8 U _ (R8.out.below hw) YU.out).mono ?_
          rintro e w1 ⟨⟨v1, rfl, ho1⟩, hb1⟩
          obtain ⟨A1, c1, rfl, hr1, _⟩ := ho1.rd
          exact ⟨_, rfl, hb1, A1, c1, rfl, hr1⟩
        | 4, ho =>
          have ho2 := Option.some.inj ho; clear ho; subst ho2
          have r30 := (hk 30 (Flow.mem_looks (by kernel_rfl))).by_ 3 (by kernel_rfl) (by decide)
          rw [if_pos (Flow.wanted_free rfl _)]
          obtain ⟨A1, c1, e1, hr1⟩ := r30
          have h1 := hr1.text (P := Tryd.prog) Tryd.underlying22 Tryd.underlying5 Tryd.underlying9
          refine Flow.step_value (v := .string (strOfNums (put q p U))) ?_ ⟨Below.refl _ _, rfl⟩
          simp [execOp, Act.eval, e1, h1, go_sem]
        | 5, ho =>
          have ho2 := Option.some.inj ho; clear ho; subst ho2
          have r0 : a.tmps.getD 0 undef = .slice (some ad) 64 c := (hk 0 (Flow.mem_looks (by kernel_rfl))).before (by kernel_rfl)
          rw [if_pos (Flow.wanted_free rfl _)]
          refine Flow.step_value (v := .slice (some ad) 64 c) ?_ ⟨Below.refl _ _, rfl⟩
          simp [execOp, Act.eval, r0, go_sem]
        | 6, ho =>
          have ho2 := Option.some.inj ho; clear ho; subst ho2
          have r32 : a.tmps.getD 32 undef = .slice (some ad) 64 c := (hk 32 (Flow.mem_looks (by kernel_rfl))).by_ 5 (by kernel_rfl) (by decide)
          rw [if_pos (Flow.wanted_free rfl _)]
          have h1 := (RW.out.below hw).text (P := Tryd.prog) Tryd.underlying22 Tryd.underlying5 Tryd.underlying9
          refine Flow.step_value (v := .string (strOfNums l)) ?_ ⟨Below.refl _ _, rfl⟩
          simp [execOp, Act.eval, r32, h1, go_sem]
        | 7, ho =>
          have ho2 := Option.some.inj ho; clear ho; subst ho2
          have r31 : a.tmps.getD 31 undef = .string (strOfNums (put q p U)) := (hk 31 (Flow.mem_looks (by kernel_rfl))).by_ 4 (by kernel_rfl) (by decide)
          have r33 : a.tmps.getD 33 undef = .string (strOfNums l) := (hk 33 (Flow.mem_looks (by kernel_rfl))).by_ 6 (by kernel_rfl) (by decide)
          rw [if_pos (Flow.wanted_free rfl _)]
          have h1 := TE.out
          refine Flow.step_value (v := .bool (!b)) ?_ ⟨Below.refl _ _, rfl⟩
          simp [execOp, Act.eval, r31, r33, h1, go_sem]
        | _ + 8, ho => exact absurd ho (by simp)
      case fin =>
        intro a w4 hw4 hd4 hs4 hg hold
        have ea := Flow.act_eq (a := a) [a.tmps.getD 0 undef, a.tmps.getD 1 undef, a.tmps.getD 2 undef, a.tmps.getD 3 undef, a.tmps.getD 4 undef, a.tmps.getD 5 undef, .slice none 0 0, .bool false, .slice A8 u c8, a.tmps.getD 9 undef, a.tmps.getD 10 undef, a.tmps.getD 11 undef, a.tmps.getD 12 undef, a.tmps.getD 13 undef, a.tmps.getD 14 undef, a.tmps.getD 15 undef, a.tmps.getD 16 undef, a.tmps.getD 17 undef, a.tmps.getD 18 undef, a.tmps.getD 19 undef, a.tmps.getD 20 undef, a.tmps.getD 21 undef, a.tmps.getD 22 undef, a.tmps.getD 23 undef, a.tmps.getD 24 undef, a.tmps.getD 25 undef, a.tmps.getD 26 undef, a.tmps.getD 27 undef, a.tmps.getD 28 undef, a.tmps.getD 29 undef, a.tmps.getD 30 undef, a.tmps.getD 31 undef, a.tmps.getD 32 undef, a.tmps.getD 33 undef, .bool (!b), a.tmps.getD 35 undef] hs4 hd4 (by
          intro t ht
          match t, ht with
          | 0, _ => exact rfl
          | 1, _ => exact rfl
          | 2, _ => exact rfl
          | 3, _ => exact rfl
          | 4, _ => exact rfl
          | 5, _ => exact rfl
          | 6, _ => exact Flow.old_at hold 6 (by kernel_rfl)
          | 7, _ => exact Flow.old_at hold 7 (by kernel_rfl)
          | 8, _ => exact Flow.old_at hold 8 (by kernel_rfl)
          | 9, _ => exact rfl
          | 10, _ => exact rfl
          | 11, _ => exact rfl
          | 12, _ => exact rfl
          | 13, _ => exact rfl
          | 14, _ => exact rfl
          | 15, _ => exact rfl
          | 16, _ => exact rfl
          | 17, _ => exact rfl
          | 18, _ => exact rfl
          | 19, _ => exact rfl
          | 20, _ => exact rfl
          | 21, _ => exact rfl
          | 22, _ => exact rfl
          | 23, _ => exact rfl
          | 24, _ => exact rfl
          | 25, _ => exact rfl
          | 26, _ => exact rfl
          | 27, _ => exact rfl
          | 28, _ => exact rfl
          | 29, _ => exact rfl
          | 30, _ => exact rfl
          | 31, _ => exact rfl
          | 32, _ => exact rfl
          | 33, _ => exact rfl
          | 34, _ => exact hg 7 _ 34 rfl rfl
          | 35, _ => exact rfl
          | t + 36, ht => exact absurd ht (by simp))
        rw [ea]
        generalize a.tmps.getD 0 undef = z0
        generalize a.tmps.getD 1 undef = z1
        generalize a.tmps.getD 2 undef = z2
        generalize a.tmps.getD 3 undef = z3
        generalize a.tmps.getD 4 undef = z4
        generalize a.tmps.getD 5 undef = z5
        generalize a.tmps.getD 9 undef = z9
        generalize a.tmps.getD 10 undef = z10
        generalize a.tmps.getD 11 undef = z11
        generalize a.tmps.getD 12 undef = z12
        generalize a.tmps.getD 13 undef = z13
        generalize a.tmps.getD 14 undef = z14
        generalize a.tmps.getD 15 undef = z15
        generalize a.tmps.getD 16 undef = z16
        generalize a.tmps.getD 17 undef = z17
        generalize a.tmps.getD 18 undef = z18
        generalize a.tmps.getD 19 undef = z19
        generalize a.tmps.getD 20 undef = z20
        generalize a.tmps.getD 21 undef = z21
        generalize a.tmps.getD 22 undef = z22
        generalize a.tmps.getD 23 undef = z23
        generalize a.tmps.getD 24 undef = z24
        generalize a.tmps.getD 25 undef = z25
        generalize a.tmps.getD 26 undef = z26
        generalize a.tmps.getD 27 undef = z27
        generalize a.tmps.getD 28 undef = z28
        generalize a.tmps.getD 29 undef = z29
        generalize a.tmps.getD 30 undef = z30
        generalize a.tmps.getD 31 undef = z31
        generalize a.tmps.getD 32 undef = z32
        generalize a.tmps.getD 33 undef = z33
        generalize a.tmps.getD 35 undef = z35
        clear ea
        have X4 := Lib.hid (below_trans X1.out hw4 X1.out.size)
        have O4 := Lib.hid (Own.below O8'.out hw4)
        clear hd4 hs4 hg hold hw4
        refine (‹∀ (a : Act) (w : World), Code.wp _ _ _ a w → _›) _ _ ?_
        cases b with
        | false =>
          go_wp2
          refine bodyPost_ret (results_tmp2 rfl _ _ _) rfl ?_
          exact get_none' HG.out X4.out
        | true =>
          go_wp2
          refine bodyPost_ret (results_tmp2 rfl _ _ _) rfl ?_
          refine ⟨⟨.slice A8 u c8, u, ?_, ?_⟩, X4.out⟩
          · rw [HG.out]; rfl
          · rw [HV.out, if_pos (by trivial)]; exact O4.out
  · have hdd : decide ((n : Int) = 64) = false := decide_eq_false (by omega)
    have hdd2 : ((n : Int) == 64) = false := by rw [beq_eq_false_iff_ne]; omega
    go_enter Tryd.func10, Tryd.ntmps10
    go_wp2
    refine bodyPost_ret (results_tmp2 rfl _ _ _) rfl ?_
    refine get_none ?_ w
    unfold gets
    exact decide_eq_false fun h => h64 (L.out.symm.trans h.1)
end Go.Proofs.YtjfpmjbbgmhjgaaDoor.Crc
