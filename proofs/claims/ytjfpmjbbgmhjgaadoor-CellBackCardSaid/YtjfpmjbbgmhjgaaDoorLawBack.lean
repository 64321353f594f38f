/- The walk of CellBack. -/
import Derived.Test.YtjfpmjbbgmhjgaaDoorLaws
namespace Go.Proofs.YtjfpmjbbgmhjgaaDoor.Crc
open Go.RowKit CrcMath

theorem Flow.unwanted_undef {ops : Array Oper} {a : Act} {o : Oper} {g : Nat} {b : Bool} {t : Tmp} (h : o.guard = some (g, b)) (ht : (((ops[g]?).bind (·.dst)) == some t) = true) (hb : a.tmps.getD t undef = undef) : Region.wanted o (yielded ops a.tmps) = false := by
  have h2 : (ops[g]?).bind (·.dst) = some t := by simpa using ht
  have h1 : yielded ops a.tmps g = none := by
    unfold yielded
    rw [h2]
    rw [Array.getD_eq_getD_getElem?] at hb
    simp only [Option.bind_some]
    cases hx : a.tmps[t]? with
    | none => rfl
    | some v =>
      rw [hx] at hb
      simp only [Option.getD_some] at hb
      rw [hb]
      rfl
  simp [Region.wanted, h, h1]
theorem getv_bytes {q p : Int} {s : List Int} (h : Bytes s) : Bytes (getv q p s) := by
  unfold getv
  split
  · exact part_bytes h
  · exact fun _ h => by cases h
def G4f (_q _p : Int) (_A3 : Option Addr) (_k _c3 : Nat) (_ls vv : List Int) (A13 : Option Addr) (c13 : Nat) : Nat → Value → World → Prop
  | 0 => fun v _ => v = .bool true
  | 1 => fun v _ => v = .bool true
  | 2 => fun v _ => v = .bool false
  | 3 => fun v _ => v = .bool true
  | 4 => fun v _ => v = .bool true
  | 5 => fun v _ => v = .slice A13 vv.length c13
  | 6 => fun v _ => v = .int .i64 0
  | 7 => fun v _ => v = .bool true
  | 8 => fun v _ => v = .bool true
  | 9 => fun v _ => v = .bool true
  | 10 => fun v _ => v = undef
  | 11 => fun v _ => v = undef
  | 12 => fun v _ => v = undef
  | 13 => fun v _ => v = undef
  | 14 => fun v _ => v = undef
  | 15 => fun v _ => v = undef
  | 16 => fun v _ => v = undef
  | 17 => fun v _ => v = undef
  | 18 => fun v _ => v = undef
  | 19 => fun v _ => v = undef
  | 20 => fun v _ => v = undef
  | 21 => fun v _ => v = .bool true
  | 22 => fun v _ => v = .bool true
  | 23 => fun v _ => v = .bool true
  | _ => fun _ _ => True
theorem G4f_stable (q p : Int) (A3 : Option Addr) (k c3 : Nat) (ls vv : List Int) (A13 : Option Addr) (c13 : Nat) : ∀ i v w w', G4f q p A3 k c3 ls vv A13 c13 i v w → Below w.heap.size w w' → G4f q p A3 k c3 ls vv A13 c13 i v w' := by
  intro i v w w' h hb
  match i, h with
  | 0, h => exact h
  | 1, h => exact h
  | 2, h => exact h
  | 3, h => exact h
  | 4, h => exact h
  | 5, h => exact h
  | 6, h => exact h
  | 7, h => exact h
  | 8, h => exact h
  | 9, h => exact h
  | 10, h => exact h
  | 11, h => exact h
  | 12, h => exact h
  | 13, h => exact h
  | 14, h => exact h
  | 15, h => exact h
  | 16, h => exact h
  | 17, h => exact h
  | 18, h => exact h
  | 19, h => exact h
  | 20, h => exact h
  | 21, h => exact h
  | 22, h => exact h
  | 23, h => exact h
  | _ + 24, _ => exact trivial
def G4t (q p : Int) (A3 : Option Addr) (k c3 : Nat) (ls vv : List Int) (A13 : Option Addr) (c13 : Nat) : Nat → Value → World → Prop
  | 0 => fun v _ => v = .bool true
  | 1 => fun v _ => v = .bool true
  | 2 => fun v _ => v = .bool true
  | 3 => fun v _ => v = .bool false
  | 4 => fun v _ => v = .bool false
  | 5 => fun v _ => v = undef
  | 6 => fun v _ => v = undef
  | 7 => fun v _ => v = undef
  | 8 => fun v _ => v = .bool false
  | 9 => fun v _ => v = .bool false
  | 10 => fun v _ => v = .bool true
  | 11 => fun v _ => v = .bool true
  | 12 => fun v _ => v = .int .i64 q
  | 13 => fun v _ => v = .int .i64 p
  | 14 => fun v _ => v = .slice A13 vv.length c13
  | 15 => fun x w => ∃ A1 c1, x = .slice A1 ls.length c1 ∧ Rd w .u8 A1 ls.length c1 ls
  | 16 => fun v _ => v = .string (strOfNums ls)
  | 17 => fun v _ => v = .slice A3 k c3
  | 18 => fun v _ => v = .string (strOfNums ls)
  | 19 => fun v _ => v = .bool true
  | 20 => fun v _ => v = .bool true
  | 21 => fun v _ => v = .bool true
  | 22 => fun v _ => v = .bool true
  | 23 => fun v _ => v = .bool true
  | _ => fun _ _ => True
theorem G4t_stable (q p : Int) (A3 : Option Addr) (k c3 : Nat) (ls vv : List Int) (A13 : Option Addr) (c13 : Nat) : ∀ i v w w', G4t q p A3 k c3 ls vv A13 c13 i v w → Below w.heap.size w w' → G4t q p A3 k c3 ls vv A13 c13 i v w' := by
  intro i v w w' h hb
  match i, h with
  | 0, h => exact h
  | 1, h => exact h
  | 2, h => exact h
  | 3, h => exact h
  | 4, h => exact h
  | 5, h => exact h
  | 6, h => exact h
  | 7, h => exact h
  | 8, h => exact h
  | 9, h => exact h
  | 10, h => exact h
  | 11, h => exact h
  | 12, h => exact h
  | 13, h => exact h
  | 14, h => exact h
  | 15, h => exact (by obtain ⟨A1, c1, e, hr⟩ := h; exact ⟨A1, c1, e, hr.below hb⟩)
  | 16, h => exact h
  | 17, h => exact h
  | 18, h => exact h
  | 19, h => exact h
  | 20, h => exact h
  | 21, h => exact h
  | 22, h => exact h
  | 23, h => exact h
  | _ + 24, _ => exact trivial
set_option maxHeartbeats 8000000 in
set_option maxRecDepth 100000 in
theorem CellBack_walk (q p : Int) (A : Option Addr) (n c : Nat) (zs : List Int) (A3 : Option Addr) (k c3 : Nat) (zs3 : List Int) (w : World) (_ : (Lit.int .i64 q).wf = true) (_ : (Lit.int .i64 p).wf = true) (hz : IsRow .u8 w A n c zs) (hz3 : IsRow .u8 w A3 k c3 zs3) :
    Calls Tryd.prog 4 #[.int .i64 q, .int .i64 p, .slice A n c, .slice A3 k c3] w fun e w' => e = .returned (.bool true) ∧ Below w.heap.size w w' := by
  have RB0 := Lib.hid hz.rd
  have YB := Lib.hid hz.bytes
  have RS0 := Lib.hid hz3.rd
  have YS := Lib.hid hz3.bytes
  have hs := Nat.le_trans hz.rd.le hz.rd.small
  have hs3 := Nat.le_trans hz3.rd.le hz3.rd.small
  generalize zs.take n = l at RB0 YB
  generalize zs3.take k = ls at RS0 YS
  have LB := Lib.hid RB0.out.len
  clear hz hz3
  by_cases h9 : (900 : Int) < n
  · have hd1 : decide ((900 : Int) < n) = true := decide_eq_true h9
    go_enter Tryd.func4, Tryd.ntmps4
    go_wp2_with fail
    refine (head_any _).mono ?_
    rintro e w1 ⟨rfl, hb1⟩
    go_wp2
    go_ret
    exact ⟨rfl, hb1⟩
  have hd1 : decide ((900 : Int) < n) = false := decide_eq_false h9
  by_cases h8 : (900 : Int) < k
  · have hd2 : decide ((900 : Int) < k) = true := decide_eq_true h8
    go_enter Tryd.func4, Tryd.ntmps4
    go_wp2_with fail
    refine (head_any _).mono ?_
    rintro e w1 ⟨rfl, hb1⟩
    go_wp2
    go_ret
    exact ⟨rfl, hb1⟩
  have hd2 : decide ((900 : Int) < k) = false := decide_eq_false h8
  obtain ⟨b, hbb⟩ : ∃ b, b = gets q p ls := ⟨_, rfl⟩
  obtain ⟨vv, hv⟩ : ∃ v, v = getv q p ls := ⟨_, rfl⟩
  have HB := Lib.hid hbb
  have HV := Lib.hid hv
  clear hbb hv
  obtain ⟨rb, hrb⟩ : ∃ b, b = right q p := ⟨_, rfl⟩
  have hra := right_any q p
  rw [← hrb] at hra
  have RA := Lib.hid hra
  have RB := Lib.hid hrb
  clear hra hrb
  by_cases hc : rb = true ∧ n ≤ 59
  · obtain ⟨rfl, h59⟩ := hc
    have hd3 : decide ((n : Int) ≤ 59) = true := decide_eq_true (by omega)
    have hl59 : l.length ≤ 59 := by rw [LB.out]; exact h59
    obtain ⟨S, hS⟩ : ∃ S, S = sector q p l := ⟨_, rfl⟩
    have HP := Lib.hid (show put q p l = S by rw [hS]; exact put_right RB.out.symm hl59)
    have HL := Lib.hid (show S.length = 64 by rw [hS]; exact sector_length hl59)
    have HS := Lib.hid (show Bytes S by rw [hS]; exact sector_bytes hl59 YB.out)
    have HG := Lib.hid (show gets q p S = true by rw [hS]; exact gets_same hl59 YB.out RB.out.symm)
    have HW := Lib.hid (show getv q p S = l by rw [hS]; exact getv_same hl59 YB.out RB.out.symm)
    clear hS hl59
    go_enter Tryd.func4, Tryd.ntmps4
    go_wp2_with fail
    refine (head_any _).mono ?_
    rintro e w1 ⟨rfl, hb1⟩
    have B1 := Lib.hid hb1
    clear hb1
    go_wp2_with fail
    refine (put_any q p A n c l _ (RB0.out.below B1.out) YB.out).mono ?_
    rintro e w2 ⟨⟨v2, rfl, ho2⟩, hb2⟩
    rw [HP.out, HL.out] at ho2
    obtain ⟨A2, c2, rfl, hr2, _⟩ := ho2.rd
    have B2' := Lib.hid (below_trans B1.out hb2 B1.out.size)
    have R2 := Lib.hid hr2
    clear ho2 hb2 hr2
    go_wp2_with fail
    refine (RA.out _).mono ?_
    rintro e w2' ⟨rfl, rfl⟩
    go_wp2_with fail
    refine (get_reads true l A2 64 c2 S q p _ R2.out HS.out HG.out HW.out).mono ?_
    rintro e w4 ⟨⟨A4, c4, rfl, hr4⟩, hb4⟩
    rw [LB.out] at hr4 ⊢
    have B2 := Lib.hid (below_trans B2'.out hb4 B2'.out.size)
    have u1 := hr4.text (P := Tryd.prog) Tryd.underlying22 Tryd.underlying5 Tryd.underlying9
    have u2 := (RB0.out.below B2.out).text (P := Tryd.prog) Tryd.underlying22 Tryd.underlying5 Tryd.underlying9
    clear hb4 hr4
    go_wp2_with fail
    clear u1 u2
    refine (get_reads b vv A3 k c3 ls q p _ (RS0.out.below B2.out) YS.out HB.out.symm HV.out.symm).mono ?_
    rintro e w3 ⟨⟨A13, c13, rfl, hr3⟩, hb3⟩
    have B3 := Lib.hid (below_trans B2.out hb3 B2.out.size)
    have RV := Lib.hid hr3
    have RS := Lib.hid (RS0.out.below B3.out)
    clear hb3 hr3
    go_wp2_with fail
    cases b with
    | false =>
      have V0 := Lib.hid (show vv.length = 0 by rw [HV.out, getv_none HB.out.symm]; rfl)
      refine Flow.wp_region_flow (by kernel_rfl) (G4f q p A3 k c3 ls vv A13 c13) (by kernel_rfl) (G4f_stable q p A3 k c3 ls vv A13 c13) ?loc ?fin
      case loc =>
        intro i o ho a w hw hk
        match i, ho with
        | 0, ho =>
          have ho2 := Option.some.inj ho; clear ho; subst ho2
          have r9 : a.tmps.getD 9 undef = .bool true := (hk 9 (Flow.mem_looks (by kernel_rfl))).before (by kernel_rfl)
          rw [if_pos (Flow.wanted_free rfl _)]
          refine Flow.step_value (v := .bool true) ?_ ⟨Below.refl _ _, rfl⟩
          simp [execOp, Act.eval, r9, go_sem]
        | 1, ho =>
          have ho2 := Option.some.inj ho; clear ho; subst ho2
          have r77 : a.tmps.getD 77 undef = .bool true := (hk 77 (Flow.mem_looks (by kernel_rfl))).by_ 0 (by kernel_rfl) (by decide)
          rw [if_pos (Flow.wanted_free rfl _)]
          refine Flow.step_value (v := .bool true) ?_ ⟨Below.refl _ _, rfl⟩
          simp [execOp, Act.eval, r77, go_sem]
        | 2, ho =>
          have ho2 := Option.some.inj ho; clear ho; subst ho2
          have r14 : a.tmps.getD 14 undef = .bool false := (hk 14 (Flow.mem_looks (by kernel_rfl))).before (by kernel_rfl)
          have r78 : a.tmps.getD 78 undef = .bool true := (hk 78 (Flow.mem_looks (by kernel_rfl))).by_ 1 (by kernel_rfl) (by decide)
          rw [if_pos (Flow.wanted_by (t := 78) rfl (by kernel_rfl) r78)]
          refine Flow.step_value (v := .bool false) ?_ ⟨Below.refl _ _, rfl⟩
          simp [execOp, Act.eval, r14, go_sem]
        | 3, ho =>
          have ho2 := Option.some.inj ho; clear ho; subst ho2
          have r79 : a.tmps.getD 79 undef = .bool false := (hk 79 (Flow.mem_looks (by kernel_rfl))).by_ 2 (by kernel_rfl) (by decide)
          have r78 : a.tmps.getD 78 undef = .bool true := (hk 78 (Flow.mem_looks (by kernel_rfl))).by_ 1 (by kernel_rfl) (by decide)
          rw [if_pos (Flow.wanted_by (t := 78) rfl (by kernel_rfl) r78)]
          refine Flow.step_value (v := .bool true) ?_ ⟨Below.refl _ _, rfl⟩
          simp [execOp, Act.eval, r79, go_sem]
        | 4, ho =>
          have ho2 := Option.some.inj ho; clear ho; subst ho2
          have r80 : a.tmps.getD 80 undef = .bool true := (hk 80 (Flow.mem_looks (by kernel_rfl))).by_ 3 (by kernel_rfl) (by decide)
          have r78 : a.tmps.getD 78 undef = .bool true := (hk 78 (Flow.mem_looks (by kernel_rfl))).by_ 1 (by kernel_rfl) (by decide)
          rw [if_pos (Flow.wanted_by (t := 78) rfl (by kernel_rfl) r78)]
          refine Flow.step_value (v := .bool true) ?_ ⟨Below.refl _ _, rfl⟩
          simp [execOp, Act.eval, r80, go_sem]
        | 5, ho =>
          have ho2 := Option.some.inj ho; clear ho; subst ho2
          have r13 : a.tmps.getD 13 undef = .slice A13 vv.length c13 := (hk 13 (Flow.mem_looks (by kernel_rfl))).before (by kernel_rfl)
          have r81 : a.tmps.getD 81 undef = .bool true := (hk 81 (Flow.mem_looks (by kernel_rfl))).by_ 4 (by kernel_rfl) (by decide)
          rw [if_pos (Flow.wanted_by (t := 81) rfl (by kernel_rfl) r81)]
          refine Flow.step_value (v := .slice A13 vv.length c13) ?_ ⟨Below.refl _ _, rfl⟩
          simp [execOp, Act.eval, r13, go_sem]
        | 6, ho =>
          have ho2 := Option.some.inj ho; clear ho; subst ho2
          have r82 : a.tmps.getD 82 undef = .slice A13 vv.length c13 := (hk 82 (Flow.mem_looks (by kernel_rfl))).by_ 5 (by kernel_rfl) (by decide)
          have r81 : a.tmps.getD 81 undef = .bool true := (hk 81 (Flow.mem_looks (by kernel_rfl))).by_ 4 (by kernel_rfl) (by decide)
          rw [if_pos (Flow.wanted_by (t := 81) rfl (by kernel_rfl) r81)]
          refine Flow.step_value (v := .int .i64 0) ?_ ⟨Below.refl _ _, rfl⟩
          have h1 := V0.out
          simp [execOp, Act.eval, r82, h1, go_sem]
        | 7, ho =>
          have ho2 := Option.some.inj ho; clear ho; subst ho2
          have r83 : a.tmps.getD 83 undef = .int .i64 0 := (hk 83 (Flow.mem_looks (by kernel_rfl))).by_ 6 (by kernel_rfl) (by decide)
          have r81 : a.tmps.getD 81 undef = .bool true := (hk 81 (Flow.mem_looks (by kernel_rfl))).by_ 4 (by kernel_rfl) (by decide)
          rw [if_pos (Flow.wanted_by (t := 81) rfl (by kernel_rfl) r81)]
          refine Flow.step_value (v := .bool true) ?_ ⟨Below.refl _ _, rfl⟩
          simp [execOp, Act.eval, r83, go_sem]
        | 8, ho =>
          have ho2 := Option.some.inj ho; clear ho; subst ho2
          have r81 : a.tmps.getD 81 undef = .bool true := (hk 81 (Flow.mem_looks (by kernel_rfl))).by_ 4 (by kernel_rfl) (by decide)
          have r84 : a.tmps.getD 84 undef = .bool true := (hk 84 (Flow.mem_looks (by kernel_rfl))).by_ 7 (by kernel_rfl) (by decide)
          have r78 : a.tmps.getD 78 undef = .bool true := (hk 78 (Flow.mem_looks (by kernel_rfl))).by_ 1 (by kernel_rfl) (by decide)
          rw [if_pos (Flow.wanted_by (t := 78) rfl (by kernel_rfl) r78)]
          refine Flow.step_value (v := .bool true) ?_ ⟨Below.refl _ _, rfl⟩
          simp [execOp, Act.eval, r81, r84, go_sem]
        | 9, ho =>
          have ho2 := Option.some.inj ho; clear ho; subst ho2
          have r85 : a.tmps.getD 85 undef = .bool true := (hk 85 (Flow.mem_looks (by kernel_rfl))).by_ 8 (by kernel_rfl) (by decide)
          have r78 : a.tmps.getD 78 undef = .bool true := (hk 78 (Flow.mem_looks (by kernel_rfl))).by_ 1 (by kernel_rfl) (by decide)
          rw [if_pos (Flow.wanted_by (t := 78) rfl (by kernel_rfl) r78)]
          refine Flow.step_value (v := .bool true) ?_ ⟨Below.refl _ _, rfl⟩
          simp [execOp, Act.eval, r85, go_sem]
        | 10, ho =>
          have ho2 := Option.some.inj ho; clear ho; subst ho2
          have r14 : a.tmps.getD 14 undef = .bool false := (hk 14 (Flow.mem_looks (by kernel_rfl))).before (by kernel_rfl)
          have r86 : a.tmps.getD 86 undef = .bool true := (hk 86 (Flow.mem_looks (by kernel_rfl))).by_ 9 (by kernel_rfl) (by decide)
          rw [if_neg (by rw [Flow.unwanted_by rfl (t := 86) (by kernel_rfl) r86]; decide)]
          exact rfl
        | 11, ho =>
          have ho2 := Option.some.inj ho; clear ho; subst ho2
          have r87 : a.tmps.getD 87 undef = undef := (hk 87 (Flow.mem_looks (by kernel_rfl))).by_ 10 (by kernel_rfl) (by decide)
          have r86 : a.tmps.getD 86 undef = .bool true := (hk 86 (Flow.mem_looks (by kernel_rfl))).by_ 9 (by kernel_rfl) (by decide)
          rw [if_neg (by rw [Flow.unwanted_by rfl (t := 86) (by kernel_rfl) r86]; decide)]
          exact rfl
        | 12, ho =>
          have ho2 := Option.some.inj ho; clear ho; subst ho2
          have r0 : a.tmps.getD 0 undef = .int .i64 q := (hk 0 (Flow.mem_looks (by kernel_rfl))).before (by kernel_rfl)
          have r88 : a.tmps.getD 88 undef = undef := (hk 88 (Flow.mem_looks (by kernel_rfl))).by_ 11 (by kernel_rfl) (by decide)
          rw [if_neg (by rw [Flow.unwanted_undef rfl (t := 88) (by kernel_rfl) r88]; decide)]
          exact rfl
        | 13, ho =>
          have ho2 := Option.some.inj ho; clear ho; subst ho2
          have r1 : a.tmps.getD 1 undef = .int .i64 p := (hk 1 (Flow.mem_looks (by kernel_rfl))).before (by kernel_rfl)
          have r88 : a.tmps.getD 88 undef = undef := (hk 88 (Flow.mem_looks (by kernel_rfl))).by_ 11 (by kernel_rfl) (by decide)
          rw [if_neg (by rw [Flow.unwanted_undef rfl (t := 88) (by kernel_rfl) r88]; decide)]
          exact rfl
        | 14, ho =>
          have ho2 := Option.some.inj ho; clear ho; subst ho2
          have r13 : a.tmps.getD 13 undef = .slice A13 vv.length c13 := (hk 13 (Flow.mem_looks (by kernel_rfl))).before (by kernel_rfl)
          have r88 : a.tmps.getD 88 undef = undef := (hk 88 (Flow.mem_looks (by kernel_rfl))).by_ 11 (by kernel_rfl) (by decide)
          rw [if_neg (by rw [Flow.unwanted_undef rfl (t := 88) (by kernel_rfl) r88]; decide)]
          exact rfl
        | 15, ho =>
          have ho2 := Option.some.inj ho; clear ho; subst ho2
          have r89 : a.tmps.getD 89 undef = undef := (hk 89 (Flow.mem_looks (by kernel_rfl))).by_ 12 (by kernel_rfl) (by decide)
          have r90 : a.tmps.getD 90 undef = undef := (hk 90 (Flow.mem_looks (by kernel_rfl))).by_ 13 (by kernel_rfl) (by decide)
          have r91 : a.tmps.getD 91 undef = undef := (hk 91 (Flow.mem_looks (by kernel_rfl))).by_ 14 (by kernel_rfl) (by decide)
          have r88 : a.tmps.getD 88 undef = undef := (hk 88 (Flow.mem_looks (by kernel_rfl))).by_ 11 (by kernel_rfl) (by decide)
          rw [if_neg (by rw [Flow.unwanted_undef rfl (t := 88) (by kernel_rfl) r88]; decide)]
          exact rfl
        | 16, ho =>
          have ho2 := Option.some.inj ho; clear ho; subst ho2
          have r92 : a.tmps.getD 92 undef = undef := (hk 92 (Flow.mem_looks (by kernel_rfl))).by_ 15 (by kernel_rfl) (by decide)
          have r88 : a.tmps.getD 88 undef = undef := (hk 88 (Flow.mem_looks (by kernel_rfl))).by_ 11 (by kernel_rfl) (by decide)
          rw [if_neg (by rw [Flow.unwanted_undef rfl (t := 88) (by kernel_rfl) r88]; decide)]
          exact rfl
        | 17, ho =>
          have ho2 := Option.some.inj ho; clear ho; subst ho2
          have r3 : a.tmps.getD 3 undef = .slice A3 k c3 := (hk 3 (Flow.mem_looks (by kernel_rfl))).before (by kernel_rfl)
          have r88 : a.tmps.getD 88 undef = undef := (hk 88 (Flow.mem_looks (by kernel_rfl))).by_ 11 (by kernel_rfl) (by decide)
          rw [if_neg (by rw [Flow.unwanted_undef rfl (t := 88) (by kernel_rfl) r88]; decide)]
          exact rfl
        | 18, ho =>
          have ho2 := Option.some.inj ho; clear ho; subst ho2
          have r94 : a.tmps.getD 94 undef = undef := (hk 94 (Flow.mem_looks (by kernel_rfl))).by_ 17 (by kernel_rfl) (by decide)
          have r88 : a.tmps.getD 88 undef = undef := (hk 88 (Flow.mem_looks (by kernel_rfl))).by_ 11 (by kernel_rfl) (by decide)
          rw [if_neg (by rw [Flow.unwanted_undef rfl (t := 88) (by kernel_rfl) r88]; decide)]
          exact rfl
        | 19, ho =>
          have ho2 := Option.some.inj ho; clear ho; subst ho2
          have r93 : a.tmps.getD 93 undef = undef := (hk 93 (Flow.mem_looks (by kernel_rfl))).by_ 16 (by kernel_rfl) (by decide)
          have r95 : a.tmps.getD 95 undef = undef := (hk 95 (Flow.mem_looks (by kernel_rfl))).by_ 18 (by kernel_rfl) (by decide)
          have r88 : a.tmps.getD 88 undef = undef := (hk 88 (Flow.mem_looks (by kernel_rfl))).by_ 11 (by kernel_rfl) (by decide)
          rw [if_neg (by rw [Flow.unwanted_undef rfl (t := 88) (by kernel_rfl) r88]; decide)]
          exact rfl
        | 20, ho =>
          have ho2 := Option.some.inj ho; clear ho; subst ho2
          have r88 : a.tmps.getD 88 undef = undef := (hk 88 (Flow.mem_looks (by kernel_rfl))).by_ 11 (by kernel_rfl) (by decide)
          have r96 : a.tmps.getD 96 undef = undef := (hk 96 (Flow.mem_looks (by kernel_rfl))).by_ 19 (by kernel_rfl) (by decide)
          have r86 : a.tmps.getD 86 undef = .bool true := (hk 86 (Flow.mem_looks (by kernel_rfl))).by_ 9 (by kernel_rfl) (by decide)
          rw [if_neg (by rw [Flow.unwanted_by rfl (t := 86) (by kernel_rfl) r86]; decide)]
          exact rfl
        | 21, ho =>
          have ho2 := Option.some.inj ho; clear ho; subst ho2
          have r86 : a.tmps.getD 86 undef = .bool true := (hk 86 (Flow.mem_looks (by kernel_rfl))).by_ 9 (by kernel_rfl) (by decide)
          have r97 : a.tmps.getD 97 undef = undef := (hk 97 (Flow.mem_looks (by kernel_rfl))).by_ 20 (by kernel_rfl) (by decide)
          have r78 : a.tmps.getD 78 undef = .bool true := (hk 78 (Flow.mem_looks (by kernel_rfl))).by_ 1 (by kernel_rfl) (by decide)
          rw [if_pos (Flow.wanted_by (t := 78) rfl (by kernel_rfl) r78)]
          refine Flow.step_value (v := .bool true) ?_ ⟨Below.refl _ _, rfl⟩
          simp [execOp, Act.eval, r86, r97, go_sem]
        | 22, ho =>
          have ho2 := Option.some.inj ho; clear ho; subst ho2
          have r78 : a.tmps.getD 78 undef = .bool true := (hk 78 (Flow.mem_looks (by kernel_rfl))).by_ 1 (by kernel_rfl) (by decide)
          have r98 : a.tmps.getD 98 undef = .bool true := (hk 98 (Flow.mem_looks (by kernel_rfl))).by_ 21 (by kernel_rfl) (by decide)
          rw [if_pos (Flow.wanted_free rfl _)]
          refine Flow.step_value (v := .bool true) ?_ ⟨Below.refl _ _, rfl⟩
          simp [execOp, Act.eval, r78, r98, go_sem]
        | 23, ho =>
          have ho2 := Option.some.inj ho; clear ho; subst ho2
          have r99 : a.tmps.getD 99 undef = .bool true := (hk 99 (Flow.mem_looks (by kernel_rfl))).by_ 22 (by kernel_rfl) (by decide)
          rw [if_pos (Flow.wanted_free rfl _)]
          refine Flow.step_value (v := .bool true) ?_ ⟨Below.refl _ _, rfl⟩
          simp [execOp, Act.eval, r99, go_sem]
        | _ + 24, ho => exact absurd ho (by simp)
      case fin =>
        intro a w5 hw5 hd5 hs5 hg hold
        have r := hg 23 _ 8 rfl rfl
        refine (‹∀ (a : Act) (w : World), Code.wp _ Code.ret _ a w → _›) _ _ ?_
        refine wp_ret ?_
        refine bodyPost_ret (results_tmp rfl _ _ _) hd5 ⟨?_, below_trans B3.out hw5 B3.out.size⟩
        exact congrArg Ending.returned r
    | true =>
      have YV := Lib.hid (show Bytes vv by rw [HV.out]; exact getv_bytes YS.out)
      have PB := Lib.hid (show put q p vv = ls by rw [HV.out]; exact gets_put_back HB.out.symm)
      refine Flow.wp_region_flow (by kernel_rfl) (G4t q p A3 k c3 ls vv A13 c13) (by kernel_rfl) (G4t_stable q p A3 k c3 ls vv A13 c13) ?loc ?fin
      case loc =>
        intro i o ho a w hw hk
        match i, ho with
        | 0, ho =>
          have ho2 := Option.some.inj ho; clear ho; subst ho2
          have r9 : a.tmps.getD 9 undef = .bool true := (hk 9 (Flow.mem_looks (by kernel_rfl))).before (by kernel_rfl)
          rw [if_pos (Flow.wanted_free rfl _)]
          refine Flow.step_value (v := .bool true) ?_ ⟨Below.refl _ _, rfl⟩
          simp [execOp, Act.eval, r9, go_sem]
        | 1, ho =>
          have ho2 := Option.some.inj ho; clear ho; subst ho2
          have r77 : a.tmps.getD 77 undef = .bool true := (hk 77 (Flow.mem_looks (by kernel_rfl))).by_ 0 (by kernel_rfl) (by decide)
          rw [if_pos (Flow.wanted_free rfl _)]
          refine Flow.step_value (v := .bool true) ?_ ⟨Below.refl _ _, rfl⟩
          simp [execOp, Act.eval, r77, go_sem]
        | 2, ho =>
          have ho2 := Option.some.inj ho; clear ho; subst ho2
          have r14 : a.tmps.getD 14 undef = .bool true := (hk 14 (Flow.mem_looks (by kernel_rfl))).before (by kernel_rfl)
          have r78 : a.tmps.getD 78 undef = .bool true := (hk 78 (Flow.mem_looks (by kernel_rfl))).by_ 1 (by kernel_rfl) (by decide)
          rw [if_pos (Flow.wanted_by (t := 78) rfl (by kernel_rfl) r78)]
          refine Flow.step_value (v := .bool true) ?_ ⟨Below.refl _ _, rfl⟩
          simp [execOp, Act.eval, r14, go_sem]
        | 3, ho =>
          have ho2 := Option.some.inj ho; clear ho; subst ho2
          have r79 : a.tmps.getD 79 undef = .bool true := (hk 79 (Flow.mem_looks (by kernel_rfl))).by_ 2 (by kernel_rfl) (by decide)
          have r78 : a.tmps.getD 78 undef = .bool true := (hk 78 (Flow.mem_looks (by kernel_rfl))).by_ 1 (by kernel_rfl) (by decide)
          rw [if_pos (Flow.wanted_by (t := 78) rfl (by kernel_rfl) r78)]
          refine Flow.step_value (v := .bool false) ?_ ⟨Below.refl _ _, rfl⟩
          simp [execOp, Act.eval, r79, go_sem]
        | 4, ho =>
          have ho2 := Option.some.inj ho; clear ho; subst ho2
          have r80 : a.tmps.getD 80 undef = .bool false := (hk 80 (Flow.mem_looks (by kernel_rfl))).by_ 3 (by kernel_rfl) (by decide)
          have r78 : a.tmps.getD 78 undef = .bool true := (hk 78 (Flow.mem_looks (by kernel_rfl))).by_ 1 (by kernel_rfl) (by decide)
          rw [if_pos (Flow.wanted_by (t := 78) rfl (by kernel_rfl) r78)]
          refine Flow.step_value (v := .bool false) ?_ ⟨Below.refl _ _, rfl⟩
          simp [execOp, Act.eval, r80, go_sem]
        | 5, ho =>
          have ho2 := Option.some.inj ho; clear ho; subst ho2
          have r13 : a.tmps.getD 13 undef = .slice A13 vv.length c13 := (hk 13 (Flow.mem_looks (by kernel_rfl))).before (by kernel_rfl)
          have r81 : a.tmps.getD 81 undef = .bool false := (hk 81 (Flow.mem_looks (by kernel_rfl))).by_ 4 (by kernel_rfl) (by decide)
          rw [if_neg (by rw [Flow.unwanted_by rfl (t := 81) (by kernel_rfl) r81]; decide)]
          exact rfl
        | 6, ho =>
          have ho2 := Option.some.inj ho; clear ho; subst ho2
          have r82 : a.tmps.getD 82 undef = undef := (hk 82 (Flow.mem_looks (by kernel_rfl))).by_ 5 (by kernel_rfl) (by decide)
          have r81 : a.tmps.getD 81 undef = .bool false := (hk 81 (Flow.mem_looks (by kernel_rfl))).by_ 4 (by kernel_rfl) (by decide)
          rw [if_neg (by rw [Flow.unwanted_by rfl (t := 81) (by kernel_rfl) r81]; decide)]
          exact rfl
        | 7, ho =>
          have ho2 := Option.some.inj ho; clear ho; subst ho2
          have r83 : a.tmps.getD 83 undef = undef := (hk 83 (Flow.mem_looks (by kernel_rfl))).by_ 6 (by kernel_rfl) (by decide)
          have r81 : a.tmps.getD 81 undef = .bool false := (hk 81 (Flow.mem_looks (by kernel_rfl))).by_ 4 (by kernel_rfl) (by decide)
          rw [if_neg (by rw [Flow.unwanted_by rfl (t := 81) (by kernel_rfl) r81]; decide)]
          exact rfl
        | 8, ho =>
          have ho2 := Option.some.inj ho; clear ho; subst ho2
          have r81 : a.tmps.getD 81 undef = .bool false := (hk 81 (Flow.mem_looks (by kernel_rfl))).by_ 4 (by kernel_rfl) (by decide)
          have r84 : a.tmps.getD 84 undef = undef := (hk 84 (Flow.mem_looks (by kernel_rfl))).by_ 7 (by kernel_rfl) (by decide)
          have r78 : a.tmps.getD 78 undef = .bool true := (hk 78 (Flow.mem_looks (by kernel_rfl))).by_ 1 (by kernel_rfl) (by decide)
          rw [if_pos (Flow.wanted_by (t := 78) rfl (by kernel_rfl) r78)]
          refine Flow.step_value (v := .bool false) ?_ ⟨Below.refl _ _, rfl⟩
          simp [execOp, Act.eval, r81, r84, go_sem]
        | 9, ho =>
          have ho2 := Option.some.inj ho; clear ho; subst ho2
          have r85 : a.tmps.getD 85 undef = .bool false := (hk 85 (Flow.mem_looks (by kernel_rfl))).by_ 8 (by kernel_rfl) (by decide)
          have r78 : a.tmps.getD 78 undef = .bool true := (hk 78 (Flow.mem_looks (by kernel_rfl))).by_ 1 (by kernel_rfl) (by decide)
          rw [if_pos (Flow.wanted_by (t := 78) rfl (by kernel_rfl) r78)]
          refine Flow.step_value (v := .bool false) ?_ ⟨Below.refl _ _, rfl⟩
          simp [execOp, Act.eval, r85, go_sem]
        | 10, ho =>
          have ho2 := Option.some.inj ho; clear ho; subst ho2
          have r14 : a.tmps.getD 14 undef = .bool true := (hk 14 (Flow.mem_looks (by kernel_rfl))).before (by kernel_rfl)
          have r86 : a.tmps.getD 86 undef = .bool false := (hk 86 (Flow.mem_looks (by kernel_rfl))).by_ 9 (by kernel_rfl) (by decide)
          rw [if_pos (Flow.wanted_by (t := 86) rfl (by kernel_rfl) r86)]
          refine Flow.step_value (v := .bool true) ?_ ⟨Below.refl _ _, rfl⟩
          simp [execOp, Act.eval, r14, go_sem]
        | 11, ho =>
          have ho2 := Option.some.inj ho; clear ho; subst ho2
          have r87 : a.tmps.getD 87 undef = .bool true := (hk 87 (Flow.mem_looks (by kernel_rfl))).by_ 10 (by kernel_rfl) (by decide)
          have r86 : a.tmps.getD 86 undef = .bool false := (hk 86 (Flow.mem_looks (by kernel_rfl))).by_ 9 (by kernel_rfl) (by decide)
          rw [if_pos (Flow.wanted_by (t := 86) rfl (by kernel_rfl) r86)]
          refine Flow.step_value (v := .bool true) ?_ ⟨Below.refl _ _, rfl⟩
          simp [execOp, Act.eval, r87, go_sem]
        | 12, ho =>
          have ho2 := Option.some.inj ho; clear ho; subst ho2
          have r0 : a.tmps.getD 0 undef = .int .i64 q := (hk 0 (Flow.mem_looks (by kernel_rfl))).before (by kernel_rfl)
          have r88 : a.tmps.getD 88 undef = .bool true := (hk 88 (Flow.mem_looks (by kernel_rfl))).by_ 11 (by kernel_rfl) (by decide)
          rw [if_pos (Flow.wanted_by (t := 88) rfl (by kernel_rfl) r88)]
          refine Flow.step_value (v := .int .i64 q) ?_ ⟨Below.refl _ _, rfl⟩
          simp [execOp, Act.eval, r0, go_sem]
        | 13, ho =>
          have ho2 := Option.some.inj ho; clear ho; subst ho2
          have r1 : a.tmps.getD 1 undef = .int .i64 p := (hk 1 (Flow.mem_looks (by kernel_rfl))).before (by kernel_rfl)
          have r88 : a.tmps.getD 88 undef = .bool true := (hk 88 (Flow.mem_looks (by kernel_rfl))).by_ 11 (by kernel_rfl) (by decide)
          rw [if_pos (Flow.wanted_by (t := 88) rfl (by kernel_rfl) r88)]
          refine Flow.step_value (v := .int .i64 p) ?_ ⟨Below.refl _ _, rfl⟩
          simp [execOp, Act.eval, r1, go_sem]
        | 14, ho =>
          have ho2 := Option.some.inj ho; clear ho; subst ho2
          have r13 : a.tmps.getD 13 undef = .slice A13 vv.length c13 := (hk 13 (Flow.mem_looks (by kernel_rfl))).before (by kernel_rfl)
          have r88 : a.tmps.getD 88 undef = .bool true := (hk 88 (Flow.mem_looks (by kernel_rfl))).by_ 11 (by kernel_rfl) (by decide)
          rw [if_pos (Flow.wanted_by (t := 88) rfl (by kernel_rfl) r88)]
          refine Flow.step_value (v := .slice A13 vv.length c13) ?_ ⟨Below.refl _ _, rfl⟩
          simp [execOp, Act.eval, r13, go_sem]
        | 15, ho =>
          have ho2 := Option.some.inj ho; clear ho; subst ho2
          have r89 : a.tmps.getD 89 undef = .int .i64 q := (hk 89 (Flow.mem_looks (by kernel_rfl))).by_ 12 (by kernel_rfl) (by decide)
          have r90 : a.tmps.getD 90 undef = .int .i64 p := (hk 90 (Flow.mem_looks (by kernel_rfl))).by_ 13 (by kernel_rfl) (by decide)
          have r91 : a.tmps.getD 91 undef = .slice A13 vv.length c13 := (hk 91 (Flow.mem_looks (by kernel_rfl))).by_ 14 (by kernel_rfl) (by decide)
          have r88 : a.tmps.getD 88 undef = .bool true := (hk 88 (Flow.mem_looks (by kernel_rfl))).by_ 11 (by kernel_rfl) (by decide)
          rw [if_pos (Flow.wanted_by (t := 88) rfl (by kernel_rfl) r88)]
          refine Flow.step_call (f := 11) (args := #[.int .i64 q, .int .i64 p, .slice A13 vv.length c13]) (by simp [execOp, Act.eval, r89, r90, r91, go_sem]) ?_
          refine (put_any q p A13 vv.length c13 vv _ (RV.out.below hw) YV.out).mono ?_
          rintro e w1 ⟨⟨v1, rfl, ho1⟩, hb1⟩
          rw [PB.out] at ho1
          obtain ⟨A1, c1, rfl, hr1, _⟩ := ho1.rd
          exact ⟨_, rfl, hb1, A1, c1, rfl, hr1⟩
        | 16, ho =>
          have ho2 := Option.some.inj ho; clear ho; subst ho2
          have r92 := (hk 92 (Flow.mem_looks (by kernel_rfl))).by_ 15 (by kernel_rfl) (by decide)
          have r88 : a.tmps.getD 88 undef = .bool true := (hk 88 (Flow.mem_looks (by kernel_rfl))).by_ 11 (by kernel_rfl) (by decide)
          rw [if_pos (Flow.wanted_by (t := 88) rfl (by kernel_rfl) r88)]
          obtain ⟨A1, c1, e1, hr1⟩ := r92
          have h1 := hr1.text (P := Tryd.prog) Tryd.underlying22 Tryd.underlying5 Tryd.underlying9
          refine Flow.step_value (v := .string (strOfNums ls)) ?_ ⟨Below.refl _ _, rfl⟩
          simp [execOp, Act.eval, e1, h1, go_sem]
        | 17, ho =>
          have ho2 := Option.some.inj ho; clear ho; subst ho2
          have r3 : a.tmps.getD 3 undef = .slice A3 k c3 := (hk 3 (Flow.mem_looks (by kernel_rfl))).before (by kernel_rfl)
          have r88 : a.tmps.getD 88 undef = .bool true := (hk 88 (Flow.mem_looks (by kernel_rfl))).by_ 11 (by kernel_rfl) (by decide)
          rw [if_pos (Flow.wanted_by (t := 88) rfl (by kernel_rfl) r88)]
          refine Flow.step_value (v := .slice A3 k c3) ?_ ⟨Below.refl _ _, rfl⟩
          simp [execOp, Act.eval, r3, go_sem]
        | 18, ho =>
          have ho2 := Option.some.inj ho; clear ho; subst ho2
          have r94 : a.tmps.getD 94 undef = .slice A3 k c3 := (hk 94 (Flow.mem_looks (by kernel_rfl))).by_ 17 (by kernel_rfl) (by decide)
          have r88 : a.tmps.getD 88 undef = .bool true := (hk 88 (Flow.mem_looks (by kernel_rfl))).by_ 11 (by kernel_rfl) (by decide)
          rw [if_pos (Flow.wanted_by (t := 88) rfl (by kernel_rfl) r88)]
          have h1 := (RS.out.below hw).text (P := Tryd.prog) Tryd.underlying22 Tryd.underlying5 Tryd.underlying9
          refine Flow.step_value (v := .string (strOfNums ls)) ?_ ⟨Below.refl _ _, rfl⟩
          simp [execOp, Act.eval, r94, h1, go_sem]
        | 19, ho =>
          have ho2 := Option.some.inj ho; clear ho; subst ho2
          have r93 : a.tmps.getD 93 undef = .string (strOfNums ls) := (hk 93 (Flow.mem_looks (by kernel_rfl))).by_ 16 (by kernel_rfl) (by decide)
          have r95 : a.tmps.getD 95 undef = .string (strOfNums ls) := (hk 95 (Flow.mem_looks (by kernel_rfl))).by_ 18 (by kernel_rfl) (by decide)
          have r88 : a.tmps.getD 88 undef = .bool true := (hk 88 (Flow.mem_looks (by kernel_rfl))).by_ 11 (by kernel_rfl) (by decide)
          rw [if_pos (Flow.wanted_by (t := 88) rfl (by kernel_rfl) r88)]
          refine Flow.step_value (v := .bool true) ?_ ⟨Below.refl _ _, rfl⟩
          simp [execOp, Act.eval, r93, r95, go_sem]
        | 20, ho =>
          have ho2 := Option.some.inj ho; clear ho; subst ho2
          have r88 : a.tmps.getD 88 undef = .bool true := (hk 88 (Flow.mem_looks (by kernel_rfl))).by_ 11 (by kernel_rfl) (by decide)
          have r96 : a.tmps.getD 96 undef = .bool true := (hk 96 (Flow.mem_looks (by kernel_rfl))).by_ 19 (by kernel_rfl) (by decide)
          have r86 : a.tmps.getD 86 undef = .bool false := (hk 86 (Flow.mem_looks (by kernel_rfl))).by_ 9 (by kernel_rfl) (by decide)
          rw [if_pos (Flow.wanted_by (t := 86) rfl (by kernel_rfl) r86)]
          refine Flow.step_value (v := .bool true) ?_ ⟨Below.refl _ _, rfl⟩
          simp [execOp, Act.eval, r88, r96, go_sem]
        | 21, ho =>
          have ho2 := Option.some.inj ho; clear ho; subst ho2
          have r86 : a.tmps.getD 86 undef = .bool false := (hk 86 (Flow.mem_looks (by kernel_rfl))).by_ 9 (by kernel_rfl) (by decide)
          have r97 : a.tmps.getD 97 undef = .bool true := (hk 97 (Flow.mem_looks (by kernel_rfl))).by_ 20 (by kernel_rfl) (by decide)
          have r78 : a.tmps.getD 78 undef = .bool true := (hk 78 (Flow.mem_looks (by kernel_rfl))).by_ 1 (by kernel_rfl) (by decide)
          rw [if_pos (Flow.wanted_by (t := 78) rfl (by kernel_rfl) r78)]
          refine Flow.step_value (v := .bool true) ?_ ⟨Below.refl _ _, rfl⟩
          simp [execOp, Act.eval, r86, r97, go_sem]
        | 22, ho =>
          have ho2 := Option.some.inj ho; clear ho; subst ho2
          have r78 : a.tmps.getD 78 undef = .bool true := (hk 78 (Flow.mem_looks (by kernel_rfl))).by_ 1 (by kernel_rfl) (by decide)
          have r98 : a.tmps.getD 98 undef = .bool true := (hk 98 (Flow.mem_looks (by kernel_rfl))).by_ 21 (by kernel_rfl) (by decide)
          rw [if_pos (Flow.wanted_free rfl _)]
          refine Flow.step_value (v := .bool true) ?_ ⟨Below.refl _ _, rfl⟩
          simp [execOp, Act.eval, r78, r98, go_sem]
        | 23, ho =>
          have ho2 := Option.some.inj ho; clear ho; subst ho2
          have r99 : a.tmps.getD 99 undef = .bool true := (hk 99 (Flow.mem_looks (by kernel_rfl))).by_ 22 (by kernel_rfl) (by decide)
          rw [if_pos (Flow.wanted_free rfl _)]
          refine Flow.step_value (v := .bool true) ?_ ⟨Below.refl _ _, rfl⟩
          simp [execOp, Act.eval, r99, go_sem]
        | _ + 24, ho => exact absurd ho (by simp)
      case fin =>
        intro a w5 hw5 hd5 hs5 hg hold
        have r := hg 23 _ 8 rfl rfl
        refine (‹∀ (a : Act) (w : World), Code.wp _ Code.ret _ a w → _›) _ _ ?_
        refine wp_ret ?_
        refine bodyPost_ret (results_tmp rfl _ _ _) hd5 ⟨?_, below_trans B3.out hw5 B3.out.size⟩
        exact congrArg Ending.returned r
  · have hput : put q p l = [] := by
      cases rb with
      | false => exact put_wrong RB.out.symm
      | true => exact put_long (by rw [LB.out]; have : ¬ n ≤ 59 := fun h => hc ⟨rfl, h⟩; omega)
    have HP := Lib.hid hput
    have hd3 : rb = true → decide ((n : Int) ≤ 59) = false := fun h => decide_eq_false (fun h2 => hc ⟨h, by omega⟩)
    have D3 := Lib.hid hd3
    clear hput hc hd3
    go_enter Tryd.func4, Tryd.ntmps4
    go_wp2_with fail
    refine (head_any _).mono ?_
    rintro e w1 ⟨rfl, hb1⟩
    have B1 := Lib.hid hb1
    clear hb1
    go_wp2_with fail
    refine (put_any q p A n c l _ (RB0.out.below B1.out) YB.out).mono ?_
    rintro e w2 ⟨⟨v2, rfl, ho2⟩, hb2⟩
    rw [HP.out] at ho2
    obtain ⟨A2, c2, rfl, _, _⟩ := ho2.rd
    have B2 := Lib.hid (below_trans B1.out hb2 B1.out.size)
    clear ho2 hb2
    go_wp2_with fail
    refine (RA.out _).mono ?_
    rintro e w2' ⟨rfl, rfl⟩
    cases rb with
    | false =>
      go_wp2_with fail
      refine (get_reads b vv A3 k c3 ls q p _ (RS0.out.below B2.out) YS.out HB.out.symm HV.out.symm).mono ?_
      rintro e w3 ⟨⟨A13, c13, rfl, hr3⟩, hb3⟩
      have B3 := Lib.hid (below_trans B2.out hb3 B2.out.size)
      have RV := Lib.hid hr3
      have RS := Lib.hid (RS0.out.below B3.out)
      clear hb3 hr3
      go_wp2_with fail
      cases b with
      | false =>
        have V0 := Lib.hid (show vv.length = 0 by rw [HV.out, getv_none HB.out.symm]; rfl)
        refine Flow.wp_region_flow (by kernel_rfl) (G4f q p A3 k c3 ls vv A13 c13) (by kernel_rfl) (G4f_stable q p A3 k c3 ls vv A13 c13) ?loc ?fin
        case loc =>
          intro i o ho a w hw hk
          match i, ho with
          | 0, ho =>
            have ho2 := Option.some.inj ho; clear ho; subst ho2
            have r9 : a.tmps.getD 9 undef = .bool true := (hk 9 (Flow.mem_looks (by kernel_rfl))).before (by kernel_rfl)
            rw [if_pos (Flow.wanted_free rfl _)]
            refine Flow.step_value (v := .bool true) ?_ ⟨Below.refl _ _, rfl⟩
            simp [execOp, Act.eval, r9, go_sem]
          | 1, ho =>
            have ho2 := Option.some.inj ho; clear ho; subst ho2
            have r77 : a.tmps.getD 77 undef = .bool true := (hk 77 (Flow.mem_looks (by kernel_rfl))).by_ 0 (by kernel_rfl) (by decide)
            rw [if_pos (Flow.wanted_free rfl _)]
            refine Flow.step_value (v := .bool true) ?_ ⟨Below.refl _ _, rfl⟩
            simp [execOp, Act.eval, r77, go_sem]
          | 2, ho =>
            have ho2 := Option.some.inj ho; clear ho; subst ho2
            have r14 : a.tmps.getD 14 undef = .bool false := (hk 14 (Flow.mem_looks (by kernel_rfl))).before (by kernel_rfl)
            have r78 : a.tmps.getD 78 undef = .bool true := (hk 78 (Flow.mem_looks (by kernel_rfl))).by_ 1 (by kernel_rfl) (by decide)
            rw [if_pos (Flow.wanted_by (t := 78) rfl (by kernel_rfl) r78)]
            refine Flow.step_value (v := .bool false) ?_ ⟨Below.refl _ _, rfl⟩
            simp [execOp, Act.eval, r14, go_sem]
          | 3, ho =>
            have ho2 := Option.some.inj ho; clear ho; subst ho2
            have r79 : a.tmps.getD 79 undef = .bool false := (hk 79 (Flow.mem_looks (by kernel_rfl))).by_ 2 (by kernel_rfl) (by decide)
            have r78 : a.tmps.getD 78 undef = .bool true := (hk 78 (Flow.mem_looks (by kernel_rfl))).by_ 1 (by kernel_rfl) (by decide)
            rw [if_pos (Flow.wanted_by (t := 78) rfl (by kernel_rfl) r78)]
            refine Flow.step_value (v := .bool true) ?_ ⟨Below.refl _ _, rfl⟩
            simp [execOp, Act.eval, r79, go_sem]
          | 4, ho =>
            have ho2 := Option.some.inj ho; clear ho; subst ho2
            have r80 : a.tmps.getD 80 undef = .bool true := (hk 80 (Flow.mem_looks (by kernel_rfl))).by_ 3 (by kernel_rfl) (by decide)
            have r78 : a.tmps.getD 78 undef = .bool true := (hk 78 (Flow.mem_looks (by kernel_rfl))).by_ 1 (by kernel_rfl) (by decide)
            rw [if_pos (Flow.wanted_by (t := 78) rfl (by kernel_rfl) r78)]
            refine Flow.step_value (v := .bool true) ?_ ⟨Below.refl _ _, rfl⟩
            simp [execOp, Act.eval, r80, go_sem]
          | 5, ho =>
            have ho2 := Option.some.inj ho; clear ho; subst ho2
            have r13 : a.tmps.getD 13 undef = .slice A13 vv.length c13 := (hk 13 (Flow.mem_looks (by kernel_rfl))).before (by kernel_rfl)
            have r81 : a.tmps.getD 81 undef = .bool true := (hk 81 (Flow.mem_looks (by kernel_rfl))).by_ 4 (by kernel_rfl) (by decide)
            rw [if_pos (Flow.wanted_by (t := 81) rfl (by kernel_rfl) r81)]
            refine Flow.step_value (v := .slice A13 vv.length c13) ?_ ⟨Below.refl _ _, rfl⟩
            simp [execOp, Act.eval, r13, go_sem]
          | 6, ho =>
            have ho2 := Option.some.inj ho; clear ho; subst ho2
            have r82 : a.tmps.getD 82 undef = .slice A13 vv.length c13 := (hk 82 (Flow.mem_looks (by kernel_rfl))).by_ 5 (by kernel_rfl) (by decide)
            have r81 : a.tmps.getD 81 undef = .bool true := (hk 81 (Flow.mem_looks (by kernel_rfl))).by_ 4 (by kernel_rfl) (by decide)
            rw [if_pos (Flow.wanted_by (t := 81) rfl (by kernel_rfl) r81)]
            refine Flow.step_value (v := .int .i64 0) ?_ ⟨Below.refl _ _, rfl⟩
            have h1 := V0.out
            simp [execOp, Act.eval, r82, h1, go_sem]
          | 7, ho =>
            have ho2 := Option.some.inj ho; clear ho; subst ho2
            have r83 : a.tmps.getD 83 undef = .int .i64 0 := (hk 83 (Flow.mem_looks (by kernel_rfl))).by_ 6 (by kernel_rfl) (by decide)
            have r81 : a.tmps.getD 81 undef = .bool true := (hk 81 (Flow.mem_looks (by kernel_rfl))).by_ 4 (by kernel_rfl) (by decide)
            rw [if_pos (Flow.wanted_by (t := 81) rfl (by kernel_rfl) r81)]
            refine Flow.step_value (v := .bool true) ?_ ⟨Below.refl _ _, rfl⟩
            simp [execOp, Act.eval, r83, go_sem]
          | 8, ho =>
            have ho2 := Option.some.inj ho; clear ho; subst ho2
            have r81 : a.tmps.getD 81 undef = .bool true := (hk 81 (Flow.mem_looks (by kernel_rfl))).by_ 4 (by kernel_rfl) (by decide)
            have r84 : a.tmps.getD 84 undef = .bool true := (hk 84 (Flow.mem_looks (by kernel_rfl))).by_ 7 (by kernel_rfl) (by decide)
            have r78 : a.tmps.getD 78 undef = .bool true := (hk 78 (Flow.mem_looks (by kernel_rfl))).by_ 1 (by kernel_rfl) (by decide)
            rw [if_pos (Flow.wanted_by (t := 78) rfl (by kernel_rfl) r78)]
            refine Flow.step_value (v := .bool true) ?_ ⟨Below.refl _ _, rfl⟩
            simp [execOp, Act.eval, r81, r84, go_sem]
          | 9, ho =>
            have ho2 := Option.some.inj ho; clear ho; subst ho2
            have r85 : a.tmps.getD 85 undef = .bool true := (hk 85 (Flow.mem_looks (by kernel_rfl))).by_ 8 (by kernel_rfl) (by decide)
            have r78 : a.tmps.getD 78 undef = .bool true := (hk 78 (Flow.mem_looks (by kernel_rfl))).by_ 1 (by kernel_rfl) (by decide)
            rw [if_pos (Flow.wanted_by (t := 78) rfl (by kernel_rfl) r78)]
            refine Flow.step_value (v := .bool true) ?_ ⟨Below.refl _ _, rfl⟩
            simp [execOp, Act.eval, r85, go_sem]
          | 10, ho =>
            have ho2 := Option.some.inj ho; clear ho; subst ho2
            have r14 : a.tmps.getD 14 undef = .bool false := (hk 14 (Flow.mem_looks (by kernel_rfl))).before (by kernel_rfl)
            have r86 : a.tmps.getD 86 undef = .bool true := (hk 86 (Flow.mem_looks (by kernel_rfl))).by_ 9 (by kernel_rfl) (by decide)
            rw [if_neg (by rw [Flow.unwanted_by rfl (t := 86) (by kernel_rfl) r86]; decide)]
            exact rfl
          | 11, ho =>
            have ho2 := Option.some.inj ho; clear ho; subst ho2
            have r87 : a.tmps.getD 87 undef = undef := (hk 87 (Flow.mem_looks (by kernel_rfl))).by_ 10 (by kernel_rfl) (by decide)
            have r86 : a.tmps.getD 86 undef = .bool true := (hk 86 (Flow.mem_looks (by kernel_rfl))).by_ 9 (by kernel_rfl) (by decide)
            rw [if_neg (by rw [Flow.unwanted_by rfl (t := 86) (by kernel_rfl) r86]; decide)]
            exact rfl
          | 12, ho =>
            have ho2 := Option.some.inj ho; clear ho; subst ho2
            have r0 : a.tmps.getD 0 undef = .int .i64 q := (hk 0 (Flow.mem_looks (by kernel_rfl))).before (by kernel_rfl)
            have r88 : a.tmps.getD 88 undef = undef := (hk 88 (Flow.mem_looks (by kernel_rfl))).by_ 11 (by kernel_rfl) (by decide)
            rw [if_neg (by rw [Flow.unwanted_undef rfl (t := 88) (by kernel_rfl) r88]; decide)]
            exact rfl
          | 13, ho =>
            have ho2 := Option.some.inj ho; clear ho; subst ho2
            have r1 : a.tmps.getD 1 undef = .int .i64 p := (hk 1 (Flow.mem_looks (by kernel_rfl))).before (by kernel_rfl)
            have r88 : a.tmps.getD 88 undef = undef := (hk 88 (Flow.mem_looks (by kernel_rfl))).by_ 11 (by kernel_rfl) (by decide)
            rw [if_neg (by rw [Flow.unwanted_undef rfl (t := 88) (by kernel_rfl) r88]; decide)]
            exact rfl
          | 14, ho =>
            have ho2 := Option.some.inj ho; clear ho; subst ho2
            have r13 : a.tmps.getD 13 undef = .slice A13 vv.length c13 := (hk 13 (Flow.mem_looks (by kernel_rfl))).before (by kernel_rfl)
            have r88 : a.tmps.getD 88 undef = undef := (hk 88 (Flow.mem_looks (by kernel_rfl))).by_ 11 (by kernel_rfl) (by decide)
            rw [if_neg (by rw [Flow.unwanted_undef rfl (t := 88) (by kernel_rfl) r88]; decide)]
            exact rfl
          | 15, ho =>
            have ho2 := Option.some.inj ho; clear ho; subst ho2
            have r89 : a.tmps.getD 89 undef = undef := (hk 89 (Flow.mem_looks (by kernel_rfl))).by_ 12 (by kernel_rfl) (by decide)
            have r90 : a.tmps.getD 90 undef = undef := (hk 90 (Flow.mem_looks (by kernel_rfl))).by_ 13 (by kernel_rfl) (by decide)
            have r91 : a.tmps.getD 91 undef = undef := (hk 91 (Flow.mem_looks (by kernel_rfl))).by_ 14 (by kernel_rfl) (by decide)
            have r88 : a.tmps.getD 88 undef = undef := (hk 88 (Flow.mem_looks (by kernel_rfl))).by_ 11 (by kernel_rfl) (by decide)
            rw [if_neg (by rw [Flow.unwanted_undef rfl (t := 88) (by kernel_rfl) r88]; decide)]
            exact rfl
          | 16, ho =>
            have ho2 := Option.some.inj ho; clear ho; subst ho2
            have r92 : a.tmps.getD 92 undef = undef := (hk 92 (Flow.mem_looks (by kernel_rfl))).by_ 15 (by kernel_rfl) (by decide)
            have r88 : a.tmps.getD 88 undef = undef := (hk 88 (Flow.mem_looks (by kernel_rfl))).by_ 11 (by kernel_rfl) (by decide)
            rw [if_neg (by rw [Flow.unwanted_undef rfl (t := 88) (by kernel_rfl) r88]; decide)]
            exact rfl
          | 17, ho =>
            have ho2 := Option.some.inj ho; clear ho; subst ho2
            have r3 : a.tmps.getD 3 undef = .slice A3 k c3 := (hk 3 (Flow.mem_looks (by kernel_rfl))).before (by kernel_rfl)
            have r88 : a.tmps.getD 88 undef = undef := (hk 88 (Flow.mem_looks (by kernel_rfl))).by_ 11 (by kernel_rfl) (by decide)
            rw [if_neg (by rw [Flow.unwanted_undef rfl (t := 88) (by kernel_rfl) r88]; decide)]
            exact rfl
          | 18, ho =>
            have ho2 := Option.some.inj ho; clear ho; subst ho2
            have r94 : a.tmps.getD 94 undef = undef := (hk 94 (Flow.mem_looks (by kernel_rfl))).by_ 17 (by kernel_rfl) (by decide)
            have r88 : a.tmps.getD 88 undef = undef := (hk 88 (Flow.mem_looks (by kernel_rfl))).by_ 11 (by kernel_rfl) (by decide)
            rw [if_neg (by rw [Flow.unwanted_undef rfl (t := 88) (by kernel_rfl) r88]; decide)]
            exact rfl
          | 19, ho =>
            have ho2 := Option.some.inj ho; clear ho; subst ho2
            have r93 : a.tmps.getD 93 undef = undef := (hk 93 (Flow.mem_looks (by kernel_rfl))).by_ 16 (by kernel_rfl) (by decide)
            have r95 : a.tmps.getD 95 undef = undef := (hk 95 (Flow.mem_looks (by kernel_rfl))).by_ 18 (by kernel_rfl) (by decide)
            have r88 : a.tmps.getD 88 undef = undef := (hk 88 (Flow.mem_looks (by kernel_rfl))).by_ 11 (by kernel_rfl) (by decide)
            rw [if_neg (by rw [Flow.unwanted_undef rfl (t := 88) (by kernel_rfl) r88]; decide)]
            exact rfl
          | 20, ho =>
            have ho2 := Option.some.inj ho; clear ho; subst ho2
            have r88 : a.tmps.getD 88 undef = undef := (hk 88 (Flow.mem_looks (by kernel_rfl))).by_ 11 (by kernel_rfl) (by decide)
            have r96 : a.tmps.getD 96 undef = undef := (hk 96 (Flow.mem_looks (by kernel_rfl))).by_ 19 (by kernel_rfl) (by decide)
            have r86 : a.tmps.getD 86 undef = .bool true := (hk 86 (Flow.mem_looks (by kernel_rfl))).by_ 9 (by kernel_rfl) (by decide)
            rw [if_neg (by rw [Flow.unwanted_by rfl (t := 86) (by kernel_rfl) r86]; decide)]
            exact rfl
          | 21, ho =>
            have ho2 := Option.some.inj ho; clear ho; subst ho2
            have r86 : a.tmps.getD 86 undef = .bool true := (hk 86 (Flow.mem_looks (by kernel_rfl))).by_ 9 (by kernel_rfl) (by decide)
            have r97 : a.tmps.getD 97 undef = undef := (hk 97 (Flow.mem_looks (by kernel_rfl))).by_ 20 (by kernel_rfl) (by decide)
            have r78 : a.tmps.getD 78 undef = .bool true := (hk 78 (Flow.mem_looks (by kernel_rfl))).by_ 1 (by kernel_rfl) (by decide)
            rw [if_pos (Flow.wanted_by (t := 78) rfl (by kernel_rfl) r78)]
            refine Flow.step_value (v := .bool true) ?_ ⟨Below.refl _ _, rfl⟩
            simp [execOp, Act.eval, r86, r97, go_sem]
          | 22, ho =>
            have ho2 := Option.some.inj ho; clear ho; subst ho2
            have r78 : a.tmps.getD 78 undef = .bool true := (hk 78 (Flow.mem_looks (by kernel_rfl))).by_ 1 (by kernel_rfl) (by decide)
            have r98 : a.tmps.getD 98 undef = .bool true := (hk 98 (Flow.mem_looks (by kernel_rfl))).by_ 21 (by kernel_rfl) (by decide)
            rw [if_pos (Flow.wanted_free rfl _)]
            refine Flow.step_value (v := .bool true) ?_ ⟨Below.refl _ _, rfl⟩
            simp [execOp, Act.eval, r78, r98, go_sem]
          | 23, ho =>
            have ho2 := Option.some.inj ho; clear ho; subst ho2
            have r99 : a.tmps.getD 99 undef = .bool true := (hk 99 (Flow.mem_looks (by kernel_rfl))).by_ 22 (by kernel_rfl) (by decide)
            rw [if_pos (Flow.wanted_free rfl _)]
            refine Flow.step_value (v := .bool true) ?_ ⟨Below.refl _ _, rfl⟩
            simp [execOp, Act.eval, r99, go_sem]
          | _ + 24, ho => exact absurd ho (by simp)
        case fin =>
          intro a w5 hw5 hd5 hs5 hg hold
          have r := hg 23 _ 8 rfl rfl
          refine (‹∀ (a : Act) (w : World), Code.wp _ Code.ret _ a w → _›) _ _ ?_
          refine wp_ret ?_
          refine bodyPost_ret (results_tmp rfl _ _ _) hd5 ⟨?_, below_trans B3.out hw5 B3.out.size⟩
          exact congrArg Ending.returned r
      | true =>
        have YV := Lib.hid (show Bytes vv by rw [HV.out]; exact getv_bytes YS.out)
        have PB := Lib.hid (show put q p vv = ls by rw [HV.out]; exact gets_put_back HB.out.symm)
        refine Flow.wp_region_flow (by kernel_rfl) (G4t q p A3 k c3 ls vv A13 c13) (by kernel_rfl) (G4t_stable q p A3 k c3 ls vv A13 c13) ?loc ?fin
        case loc =>
          intro i o ho a w hw hk
          match i, ho with
          | 0, ho =>
            have ho2 := Option.some.inj ho; clear ho; subst ho2
            have r9 : a.tmps.getD 9 undef = .bool true := (hk 9 (Flow.mem_looks (by kernel_rfl))).before (by kernel_rfl)
            rw [if_pos (Flow.wanted_free rfl _)]
            refine Flow.step_value (v := .bool true) ?_ ⟨Below.refl _ _, rfl⟩
            simp [execOp, Act.eval, r9, go_sem]
          | 1, ho =>
            have ho2 := Option.some.inj ho; clear ho; subst ho2
            have r77 : a.tmps.getD 77 undef = .bool true := (hk 77 (Flow.mem_looks (by kernel_rfl))).by_ 0 (by kernel_rfl) (by decide)
            rw [if_pos (Flow.wanted_free rfl _)]
            refine Flow.step_value (v := .bool true) ?_ ⟨Below.refl _ _, rfl⟩
            simp [execOp, Act.eval, r77, go_sem]
          | 2, ho =>
            have ho2 := Option.some.inj ho; clear ho; subst ho2
            have r14 : a.tmps.getD 14 undef = .bool true := (hk 14 (Flow.mem_looks (by kernel_rfl))).before (by kernel_rfl)
            have r78 : a.tmps.getD 78 undef = .bool true := (hk 78 (Flow.mem_looks (by kernel_rfl))).by_ 1 (by kernel_rfl) (by decide)
            rw [if_pos (Flow.wanted_by (t := 78) rfl (by kernel_rfl) r78)]
            refine Flow.step_value (v := .bool true) ?_ ⟨Below.refl _ _, rfl⟩
            simp [execOp, Act.eval, r14, go_sem]
          | 3, ho =>
            have ho2 := Option.some.inj ho; clear ho; subst ho2
            have r79 : a.tmps.getD 79 undef = .bool true := (hk 79 (Flow.mem_looks (by kernel_rfl))).by_ 2 (by kernel_rfl) (by decide)
            have r78 : a.tmps.getD 78 undef = .bool true := (hk 78 (Flow.mem_looks (by kernel_rfl))).by_ 1 (by kernel_rfl) (by decide)
            rw [if_pos (Flow.wanted_by (t := 78) rfl (by kernel_rfl) r78)]
            refine Flow.step_value (v := .bool false) ?_ ⟨Below.refl _ _, rfl⟩
            simp [execOp, Act.eval, r79, go_sem]
          | 4, ho =>
            have ho2 := Option.some.inj ho; clear ho; subst ho2
            have r80 : a.tmps.getD 80 undef = .bool false := (hk 80 (Flow.mem_looks (by kernel_rfl))).by_ 3 (by kernel_rfl) (by decide)
            have r78 : a.tmps.getD 78 undef = .bool true := (hk 78 (Flow.mem_looks (by kernel_rfl))).by_ 1 (by kernel_rfl) (by decide)
            rw [if_pos (Flow.wanted_by (t := 78) rfl (by kernel_rfl) r78)]
            refine Flow.step_value (v := .bool false) ?_ ⟨Below.refl _ _, rfl⟩
            simp [execOp, Act.eval, r80, go_sem]
          | 5, ho =>
            have ho2 := Option.some.inj ho; clear ho; subst ho2
            have r13 : a.tmps.getD 13 undef = .slice A13 vv.length c13 := (hk 13 (Flow.mem_looks (by kernel_rfl))).before (by kernel_rfl)
            have r81 : a.tmps.getD 81 undef = .bool false := (hk 81 (Flow.mem_looks (by kernel_rfl))).by_ 4 (by kernel_rfl) (by decide)
            rw [if_neg (by rw [Flow.unwanted_by rfl (t := 81) (by kernel_rfl) r81]; decide)]
            exact rfl
          | 6, ho =>
            have ho2 := Option.some.inj ho; clear ho; subst ho2
            have r82 : a.tmps.getD 82 undef = undef := (hk 82 (Flow.mem_looks (by kernel_rfl))).by_ 5 (by kernel_rfl) (by decide)
            have r81 : a.tmps.getD 81 undef = .bool false := (hk 81 (Flow.mem_looks (by kernel_rfl))).by_ 4 (by kernel_rfl) (by decide)
            rw [if_neg (by rw [Flow.unwanted_by rfl (t := 81) (by kernel_rfl) r81]; decide)]
            exact rfl
          | 7, ho =>
            have ho2 := Option.some.inj ho; clear ho; subst ho2
            have r83 : a.tmps.getD 83 undef = undef := (hk 83 (Flow.mem_looks (by kernel_rfl))).by_ 6 (by kernel_rfl) (by decide)
            have r81 : a.tmps.getD 81 undef = .bool false := (hk 81 (Flow.mem_looks (by kernel_rfl))).by_ 4 (by kernel_rfl) (by decide)
            rw [if_neg (by rw [Flow.unwanted_by rfl (t := 81) (by kernel_rfl) r81]; decide)]
            exact rfl
          | 8, ho =>
            have ho2 := Option.some.inj ho; clear ho; subst ho2
            have r81 : a.tmps.getD 81 undef = .bool false := (hk 81 (Flow.mem_looks (by kernel_rfl))).by_ 4 (by kernel_rfl) (by decide)
            have r84 : a.tmps.getD 84 undef = undef := (hk 84 (Flow.mem_looks (by kernel_rfl))).by_ 7 (by kernel_rfl) (by decide)
            have r78 : a.tmps.getD 78 undef = .bool true := (hk 78 (Flow.mem_looks (by kernel_rfl))).by_ 1 (by kernel_rfl) (by decide)
            rw [if_pos (Flow.wanted_by (t := 78) rfl (by kernel_rfl) r78)]
            refine Flow.step_value (v := .bool false) ?_ ⟨Below.refl _ _, rfl⟩
            simp [execOp, Act.eval, r81, r84, go_sem]
          | 9, ho =>
            have ho2 := Option.some.inj ho; clear ho; subst ho2
            have r85 : a.tmps.getD 85 undef = .bool false := (hk 85 (Flow.mem_looks (by kernel_rfl))).by_ 8 (by kernel_rfl) (by decide)
            have r78 : a.tmps.getD 78 undef = .bool true := (hk 78 (Flow.mem_looks (by kernel_rfl))).by_ 1 (by kernel_rfl) (by decide)
            rw [if_pos (Flow.wanted_by (t := 78) rfl (by kernel_rfl) r78)]
            refine Flow.step_value (v := .bool false) ?_ ⟨Below.refl _ _, rfl⟩
            simp [execOp, Act.eval, r85, go_sem]
          | 10, ho =>
            have ho2 := Option.some.inj ho; clear ho; subst ho2
            have r14 : a.tmps.getD 14 undef = .bool true := (hk 14 (Flow.mem_looks (by kernel_rfl))).before (by kernel_rfl)
            have r86 : a.tmps.getD 86 undef = .bool false := (hk 86 (Flow.mem_looks (by kernel_rfl))).by_ 9 (by kernel_rfl) (by decide)
            rw [if_pos (Flow.wanted_by (t := 86) rfl (by kernel_rfl) r86)]
            refine Flow.step_value (v := .bool true) ?_ ⟨Below.refl _ _, rfl⟩
            simp [execOp, Act.eval, r14, go_sem]
          | 11, ho =>
            have ho2 := Option.some.inj ho; clear ho; subst ho2
            have r87 : a.tmps.getD 87 undef = .bool true := (hk 87 (Flow.mem_looks (by kernel_rfl))).by_ 10 (by kernel_rfl) (by decide)
            have r86 : a.tmps.getD 86 undef = .bool false := (hk 86 (Flow.mem_looks (by kernel_rfl))).by_ 9 (by kernel_rfl) (by decide)
            rw [if_pos (Flow.wanted_by (t := 86) rfl (by kernel_rfl) r86)]
            refine Flow.step_value (v := .bool true) ?_ ⟨Below.refl _ _, rfl⟩
            simp [execOp, Act.eval, r87, go_sem]
          | 12, ho =>
            have ho2 := Option.some.inj ho; clear ho; subst ho2
            have r0 : a.tmps.getD 0 undef = .int .i64 q := (hk 0 (Flow.mem_looks (by kernel_rfl))).before (by kernel_rfl)
            have r88 : a.tmps.getD 88 undef = .bool true := (hk 88 (Flow.mem_looks (by kernel_rfl))).by_ 11 (by kernel_rfl) (by decide)
            rw [if_pos (Flow.wanted_by (t := 88) rfl (by kernel_rfl) r88)]
            refine Flow.step_value (v := .int .i64 q) ?_ ⟨Below.refl _ _, rfl⟩
            simp [execOp, Act.eval, r0, go_sem]
          | 13, ho =>
            have ho2 := Option.some.inj ho; clear ho; subst ho2
            have r1 : a.tmps.getD 1 undef = .int .i64 p := (hk 1 (Flow.mem_looks (by kernel_rfl))).before (by kernel_rfl)
            have r88 : a.tmps.getD 88 undef = .bool true := (hk 88 (Flow.mem_looks (by kernel_rfl))).by_ 11 (by kernel_rfl) (by decide)
            rw [if_pos (Flow.wanted_by (t := 88) rfl (by kernel_rfl) r88)]
            refine Flow.step_value (v := .int .i64 p) ?_ ⟨Below.refl _ _, rfl⟩
            simp [execOp, Act.eval, r1, go_sem]
          | 14, ho =>
            have ho2 := Option.some.inj ho; clear ho; subst ho2
            have r13 : a.tmps.getD 13 undef = .slice A13 vv.length c13 := (hk 13 (Flow.mem_looks (by kernel_rfl))).before (by kernel_rfl)
            have r88 : a.tmps.getD 88 undef = .bool true := (hk 88 (Flow.mem_looks (by kernel_rfl))).by_ 11 (by kernel_rfl) (by decide)
            rw [if_pos (Flow.wanted_by (t := 88) rfl (by kernel_rfl) r88)]
            refine Flow.step_value (v := .slice A13 vv.length c13) ?_ ⟨Below.refl _ _, rfl⟩
            simp [execOp, Act.eval, r13, go_sem]
          | 15, ho =>
            have ho2 := Option.some.inj ho; clear ho; subst ho2
            have r89 : a.tmps.getD 89 undef = .int .i64 q := (hk 89 (Flow.mem_looks (by kernel_rfl))).by_ 12 (by kernel_rfl) (by decide)
            have r90 : a.tmps.getD 90 undef = .int .i64 p := (hk 90 (Flow.mem_looks (by kernel_rfl))).by_ 13 (by kernel_rfl) (by decide)
            have r91 : a.tmps.getD 91 undef = .slice A13 vv.length c13 := (hk 91 (Flow.mem_looks (by kernel_rfl))).by_ 14 (by kernel_rfl) (by decide)
            have r88 : a.tmps.getD 88 undef = .bool true := (hk 88 (Flow.mem_looks (by kernel_rfl))).by_ 11 (by kernel_rfl) (by decide)
            rw [if_pos (Flow.wanted_by (t := 88) rfl (by kernel_rfl) r88)]
            refine Flow.step_call (f := 11) (args := #[.int .i64 q, .int .i64 p, .slice A13 vv.length c13]) (by simp [execOp, Act.eval, r89, r90, r91, go_sem]) ?_
            refine (put_any q p A13 vv.length c13 vv _ (RV.out.below hw) YV.out).mono ?_
            rintro e w1 ⟨⟨v1, rfl, ho1⟩, hb1⟩
            rw [PB.out] at ho1
            obtain ⟨A1, c1, rfl, hr1, _⟩ := ho1.rd
            exact ⟨_, rfl, hb1, A1, c1, rfl, hr1⟩
          | 16, ho =>
            have ho2 := Option.some.inj ho; clear ho; subst ho2
            have r92 := (hk 92 (Flow.mem_looks (by kernel_rfl))).by_ 15 (by kernel_rfl) (by decide)
            have r88 : a.tmps.getD 88 undef = .bool true := (hk 88 (Flow.mem_looks (by kernel_rfl))).by_ 11 (by kernel_rfl) (by decide)
            rw [if_pos (Flow.wanted_by (t := 88) rfl (by kernel_rfl) r88)]
            obtain ⟨A1, c1, e1, hr1⟩ := r92
            have h1 := hr1.text (P := Tryd.prog) Tryd.underlying22 Tryd.underlying5 Tryd.underlying9
            refine Flow.step_value (v := .string (strOfNums ls)) ?_ ⟨Below.refl _ _, rfl⟩
            simp [execOp, Act.eval, e1, h1, go_sem]
          | 17, ho =>
            have ho2 := Option.some.inj ho; clear ho; subst ho2
            have r3 : a.tmps.getD 3 undef = .slice A3 k c3 := (hk 3 (Flow.mem_looks (by kernel_rfl))).before (by kernel_rfl)
            have r88 : a.tmps.getD 88 undef = .bool true := (hk 88 (Flow.mem_looks (by kernel_rfl))).by_ 11 (by kernel_rfl) (by decide)
            rw [if_pos (Flow.wanted_by (t := 88) rfl (by kernel_rfl) r88)]
            refine Flow.step_value (v := .slice A3 k c3) ?_ ⟨Below.refl _ _, rfl⟩
            simp [execOp, Act.eval, r3, go_sem]
          | 18, ho =>
            have ho2 := Option.some.inj ho; clear ho; subst ho2
            have r94 : a.tmps.getD 94 undef = .slice A3 k c3 := (hk 94 (Flow.mem_looks (by kernel_rfl))).by_ 17 (by kernel_rfl) (by decide)
            have r88 : a.tmps.getD 88 undef = .bool true := (hk 88 (Flow.mem_looks (by kernel_rfl))).by_ 11 (by kernel_rfl) (by decide)
            rw [if_pos (Flow.wanted_by (t := 88) rfl (by kernel_rfl) r88)]
            have h1 := (RS.out.below hw).text (P := Tryd.prog) Tryd.underlying22 Tryd.underlying5 Tryd.underlying9
            refine Flow.step_value (v := .string (strOfNums ls)) ?_ ⟨Below.refl _ _, rfl⟩
            simp [execOp, Act.eval, r94, h1, go_sem]
          | 19, ho =>
            have ho2 := Option.some.inj ho; clear ho; subst ho2
            have r93 : a.tmps.getD 93 undef = .string (strOfNums ls) := (hk 93 (Flow.mem_looks (by kernel_rfl))).by_ 16 (by kernel_rfl) (by decide)
            have r95 : a.tmps.getD 95 undef = .string (strOfNums ls) := (hk 95 (Flow.mem_looks (by kernel_rfl))).by_ 18 (by kernel_rfl) (by decide)
            have r88 : a.tmps.getD 88 undef = .bool true := (hk 88 (Flow.mem_looks (by kernel_rfl))).by_ 11 (by kernel_rfl) (by decide)
            rw [if_pos (Flow.wanted_by (t := 88) rfl (by kernel_rfl) r88)]
            refine Flow.step_value (v := .bool true) ?_ ⟨Below.refl _ _, rfl⟩
            simp [execOp, Act.eval, r93, r95, go_sem]
          | 20, ho =>
            have ho2 := Option.some.inj ho; clear ho; subst ho2
            have r88 : a.tmps.getD 88 undef = .bool true := (hk 88 (Flow.mem_looks (by kernel_rfl))).by_ 11 (by kernel_rfl) (by decide)
            have r96 : a.tmps.getD 96 undef = .bool true := (hk 96 (Flow.mem_looks (by kernel_rfl))).by_ 19 (by kernel_rfl) (by decide)
            have r86 : a.tmps.getD 86 undef = .bool false := (hk 86 (Flow.mem_looks (by kernel_rfl))).by_ 9 (by kernel_rfl) (by decide)
            rw [if_pos (Flow.wanted_by (t := 86) rfl (by kernel_rfl) r86)]
            refine Flow.step_value (v := .bool true) ?_ ⟨Below.refl _ _, rfl⟩
            simp [execOp, Act.eval, r88, r96, go_sem]
          | 21, ho =>
            have ho2 := Option.some.inj ho; clear ho; subst ho2
            have r86 : a.tmps.getD 86 undef = .bool false := (hk 86 (Flow.mem_looks (by kernel_rfl))).by_ 9 (by kernel_rfl) (by decide)
            have r97 : a.tmps.getD 97 undef = .bool true := (hk 97 (Flow.mem_looks (by kernel_rfl))).by_ 20 (by kernel_rfl) (by decide)
            have r78 : a.tmps.getD 78 undef = .bool true := (hk 78 (Flow.mem_looks (by kernel_rfl))).by_ 1 (by kernel_rfl) (by decide)
            rw [if_pos (Flow.wanted_by (t := 78) rfl (by kernel_rfl) r78)]
            refine Flow.step_value (v := .bool true) ?_ ⟨Below.refl _ _, rfl⟩
            simp [execOp, Act.eval, r86, r97, go_sem]
          | 22, ho =>
            have ho2 := Option.some.inj ho; clear ho; subst ho2
            have r78 : a.tmps.getD 78 undef = .bool true := (hk 78 (Flow.mem_looks (by kernel_rfl))).by_ 1 (by kernel_rfl) (by decide)
            have r98 : a.tmps.getD 98 undef = .bool true := (hk 98 (Flow.mem_looks (by kernel_rfl))).by_ 21 (by kernel_rfl) (by decide)
            rw [if_pos (Flow.wanted_free rfl _)]
            refine Flow.step_value (v := .bool true) ?_ ⟨Below.refl _ _, rfl⟩
            simp [execOp, Act.eval, r78, r98, go_sem]
          | 23, ho =>
            have ho2 := Option.some.inj ho; clear ho; subst ho2
            have r99 : a.tmps.getD 99 undef = .bool true := (hk 99 (Flow.mem_looks (by kernel_rfl))).by_ 22 (by kernel_rfl) (by decide)
            rw [if_pos (Flow.wanted_free rfl _)]
            refine Flow.step_value (v := .bool true) ?_ ⟨Below.refl _ _, rfl⟩
            simp [execOp, Act.eval, r99, go_sem]
          | _ + 24, ho => exact absurd ho (by simp)
        case fin =>
          intro a w5 hw5 hd5 hs5 hg hold
          have r := hg 23 _ 8 rfl rfl
          refine (‹∀ (a : Act) (w : World), Code.wp _ Code.ret _ a w → _›) _ _ ?_
          refine wp_ret ?_
          refine bodyPost_ret (results_tmp rfl _ _ _) hd5 ⟨?_, below_trans B3.out hw5 B3.out.size⟩
          exact congrArg Ending.returned r
    | true =>
      have hd4 := D3.out rfl
      go_wp2_with fail
      refine (get_reads b vv A3 k c3 ls q p _ (RS0.out.below B2.out) YS.out HB.out.symm HV.out.symm).mono ?_
      rintro e w3 ⟨⟨A13, c13, rfl, hr3⟩, hb3⟩
      have B3 := Lib.hid (below_trans B2.out hb3 B2.out.size)
      have RV := Lib.hid hr3
      have RS := Lib.hid (RS0.out.below B3.out)
      clear hb3 hr3
      go_wp2_with fail
      cases b with
      | false =>
        have V0 := Lib.hid (show vv.length = 0 by rw [HV.out, getv_none HB.out.symm]; rfl)
        refine Flow.wp_region_flow (by kernel_rfl) (G4f q p A3 k c3 ls vv A13 c13) (by kernel_rfl) (G4f_stable q p A3 k c3 ls vv A13 c13) ?loc ?fin
        case loc =>
          intro i o ho a w hw hk
          match i, ho with
          | 0, ho =>
            have ho2 := Option.some.inj ho; clear ho; subst ho2
            have r9 : a.tmps.getD 9 undef = .bool true := (hk 9 (Flow.mem_looks (by kernel_rfl))).before (by kernel_rfl)
            rw [if_pos (Flow.wanted_free rfl _)]
            refine Flow.step_value (v := .bool true) ?_ ⟨Below.refl _ _, rfl⟩
            simp [execOp, Act.eval, r9, go_sem]
          | 1, ho =>
            have ho2 := Option.some.inj ho; clear ho; subst ho2
            have r77 : a.tmps.getD 77 undef = .bool true := (hk 77 (Flow.mem_looks (by kernel_rfl))).by_ 0 (by kernel_rfl) (by decide)
            rw [if_pos (Flow.wanted_free rfl _)]
            refine Flow.step_value (v := .bool true) ?_ ⟨Below.refl _ _, rfl⟩
            simp [execOp, Act.eval, r77, go_sem]
          | 2, ho =>
            have ho2 := Option.some.inj ho; clear ho; subst ho2
            have r14 : a.tmps.getD 14 undef = .bool false := (hk 14 (Flow.mem_looks (by kernel_rfl))).before (by kernel_rfl)
            have r78 : a.tmps.getD 78 undef = .bool true := (hk 78 (Flow.mem_looks (by kernel_rfl))).by_ 1 (by kernel_rfl) (by decide)
            rw [if_pos (Flow.wanted_by (t := 78) rfl (by kernel_rfl) r78)]
            refine Flow.step_value (v := .bool false) ?_ ⟨Below.refl _ _, rfl⟩
            simp [execOp, Act.eval, r14, go_sem]
          | 3, ho =>
            have ho2 := Option.some.inj ho; clear ho; subst ho2
            have r79 : a.tmps.getD 79 undef = .bool false := (hk 79 (Flow.mem_looks (by kernel_rfl))).by_ 2 (by kernel_rfl) (by decide)
            have r78 : a.tmps.getD 78 undef = .bool true := (hk 78 (Flow.mem_looks (by kernel_rfl))).by_ 1 (by kernel_rfl) (by decide)
            rw [if_pos (Flow.wanted_by (t := 78) rfl (by kernel_rfl) r78)]
            refine Flow.step_value (v := .bool true) ?_ ⟨Below.refl _ _, rfl⟩
            simp [execOp, Act.eval, r79, go_sem]
          | 4, ho =>
            have ho2 := Option.some.inj ho; clear ho; subst ho2
            have r80 : a.tmps.getD 80 undef = .bool true := (hk 80 (Flow.mem_looks (by kernel_rfl))).by_ 3 (by kernel_rfl) (by decide)
            have r78 : a.tmps.getD 78 undef = .bool true := (hk 78 (Flow.mem_looks (by kernel_rfl))).by_ 1 (by kernel_rfl) (by decide)
            rw [if_pos (Flow.wanted_by (t := 78) rfl (by kernel_rfl) r78)]
            refine Flow.step_value (v := .bool true) ?_ ⟨Below.refl _ _, rfl⟩
            simp [execOp, Act.eval, r80, go_sem]
          | 5, ho =>
            have ho2 := Option.some.inj ho; clear ho; subst ho2
            have r13 : a.tmps.getD 13 undef = .slice A13 vv.length c13 := (hk 13 (Flow.mem_looks (by kernel_rfl))).before (by kernel_rfl)
            have r81 : a.tmps.getD 81 undef = .bool true := (hk 81 (Flow.mem_looks (by kernel_rfl))).by_ 4 (by kernel_rfl) (by decide)
            rw [if_pos (Flow.wanted_by (t := 81) rfl (by kernel_rfl) r81)]
            refine Flow.step_value (v := .slice A13 vv.length c13) ?_ ⟨Below.refl _ _, rfl⟩
            simp [execOp, Act.eval, r13, go_sem]
          | 6, ho =>
            have ho2 := Option.some.inj ho; clear ho; subst ho2
            have r82 : a.tmps.getD 82 undef = .slice A13 vv.length c13 := (hk 82 (Flow.mem_looks (by kernel_rfl))).by_ 5 (by kernel_rfl) (by decide)
            have r81 : a.tmps.getD 81 undef = .bool true := (hk 81 (Flow.mem_looks (by kernel_rfl))).by_ 4 (by kernel_rfl) (by decide)
            rw [if_pos (Flow.wanted_by (t := 81) rfl (by kernel_rfl) r81)]
            refine Flow.step_value (v := .int .i64 0) ?_ ⟨Below.refl _ _, rfl⟩
            have h1 := V0.out
            simp [execOp, Act.eval, r82, h1, go_sem]
          | 7, ho =>
            have ho2 := Option.some.inj ho; clear ho; subst ho2
            have r83 : a.tmps.getD 83 undef = .int .i64 0 := (hk 83 (Flow.mem_looks (by kernel_rfl))).by_ 6 (by kernel_rfl) (by decide)
            have r81 : a.tmps.getD 81 undef = .bool true := (hk 81 (Flow.mem_looks (by kernel_rfl))).by_ 4 (by kernel_rfl) (by decide)
            rw [if_pos (Flow.wanted_by (t := 81) rfl (by kernel_rfl) r81)]
            refine Flow.step_value (v := .bool true) ?_ ⟨Below.refl _ _, rfl⟩
            simp [execOp, Act.eval, r83, go_sem]
          | 8, ho =>
            have ho2 := Option.some.inj ho; clear ho; subst ho2
            have r81 : a.tmps.getD 81 undef = .bool true := (hk 81 (Flow.mem_looks (by kernel_rfl))).by_ 4 (by kernel_rfl) (by decide)
            have r84 : a.tmps.getD 84 undef = .bool true := (hk 84 (Flow.mem_looks (by kernel_rfl))).by_ 7 (by kernel_rfl) (by decide)
            have r78 : a.tmps.getD 78 undef = .bool true := (hk 78 (Flow.mem_looks (by kernel_rfl))).by_ 1 (by kernel_rfl) (by decide)
            rw [if_pos (Flow.wanted_by (t := 78) rfl (by kernel_rfl) r78)]
            refine Flow.step_value (v := .bool true) ?_ ⟨Below.refl _ _, rfl⟩
            simp [execOp, Act.eval, r81, r84, go_sem]
          | 9, ho =>
            have ho2 := Option.some.inj ho; clear ho; subst ho2
            have r85 : a.tmps.getD 85 undef = .bool true := (hk 85 (Flow.mem_looks (by kernel_rfl))).by_ 8 (by kernel_rfl) (by decide)
            have r78 : a.tmps.getD 78 undef = .bool true := (hk 78 (Flow.mem_looks (by kernel_rfl))).by_ 1 (by kernel_rfl) (by decide)
            rw [if_pos (Flow.wanted_by (t := 78) rfl (by kernel_rfl) r78)]
            refine Flow.step_value (v := .bool true) ?_ ⟨Below.refl _ _, rfl⟩
            simp [execOp, Act.eval, r85, go_sem]
          | 10, ho =>
            have ho2 := Option.some.inj ho; clear ho; subst ho2
            have r14 : a.tmps.getD 14 undef = .bool false := (hk 14 (Flow.mem_looks (by kernel_rfl))).before (by kernel_rfl)
            have r86 : a.tmps.getD 86 undef = .bool true := (hk 86 (Flow.mem_looks (by kernel_rfl))).by_ 9 (by kernel_rfl) (by decide)
            rw [if_neg (by rw [Flow.unwanted_by rfl (t := 86) (by kernel_rfl) r86]; decide)]
            exact rfl
          | 11, ho =>
            have ho2 := Option.some.inj ho; clear ho; subst ho2
            have r87 : a.tmps.getD 87 undef = undef := (hk 87 (Flow.mem_looks (by kernel_rfl))).by_ 10 (by kernel_rfl) (by decide)
            have r86 : a.tmps.getD 86 undef = .bool true := (hk 86 (Flow.mem_looks (by kernel_rfl))).by_ 9 (by kernel_rfl) (by decide)
            rw [if_neg (by rw [Flow.unwanted_by rfl (t := 86) (by kernel_rfl) r86]; decide)]
            exact rfl
          | 12, ho =>
            have ho2 := Option.some.inj ho; clear ho; subst ho2
            have r0 : a.tmps.getD 0 undef = .int .i64 q := (hk 0 (Flow.mem_looks (by kernel_rfl))).before (by kernel_rfl)
            have r88 : a.tmps.getD 88 undef = undef := (hk 88 (Flow.mem_looks (by kernel_rfl))).by_ 11 (by kernel_rfl) (by decide)
            rw [if_neg (by rw [Flow.unwanted_undef rfl (t := 88) (by kernel_rfl) r88]; decide)]
            exact rfl
          | 13, ho =>
            have ho2 := Option.some.inj ho; clear ho; subst ho2
            have r1 : a.tmps.getD 1 undef = .int .i64 p := (hk 1 (Flow.mem_looks (by kernel_rfl))).before (by kernel_rfl)
            have r88 : a.tmps.getD 88 undef = undef := (hk 88 (Flow.mem_looks (by kernel_rfl))).by_ 11 (by kernel_rfl) (by decide)
            rw [if_neg (by rw [Flow.unwanted_undef rfl (t := 88) (by kernel_rfl) r88]; decide)]
            exact rfl
          | 14, ho =>
            have ho2 := Option.some.inj ho; clear ho; subst ho2
            have r13 : a.tmps.getD 13 undef = .slice A13 vv.length c13 := (hk 13 (Flow.mem_looks (by kernel_rfl))).before (by kernel_rfl)
            have r88 : a.tmps.getD 88 undef = undef := (hk 88 (Flow.mem_looks (by kernel_rfl))).by_ 11 (by kernel_rfl) (by decide)
            rw [if_neg (by rw [Flow.unwanted_undef rfl (t := 88) (by kernel_rfl) r88]; decide)]
            exact rfl
          | 15, ho =>
            have ho2 := Option.some.inj ho; clear ho; subst ho2
            have r89 : a.tmps.getD 89 undef = undef := (hk 89 (Flow.mem_looks (by kernel_rfl))).by_ 12 (by kernel_rfl) (by decide)
            have r90 : a.tmps.getD 90 undef = undef := (hk 90 (Flow.mem_looks (by kernel_rfl))).by_ 13 (by kernel_rfl) (by decide)
            have r91 : a.tmps.getD 91 undef = undef := (hk 91 (Flow.mem_looks (by kernel_rfl))).by_ 14 (by kernel_rfl) (by decide)
            have r88 : a.tmps.getD 88 undef = undef := (hk 88 (Flow.mem_looks (by kernel_rfl))).by_ 11 (by kernel_rfl) (by decide)
            rw [if_neg (by rw [Flow.unwanted_undef rfl (t := 88) (by kernel_rfl) r88]; decide)]
            exact rfl
          | 16, ho =>
            have ho2 := Option.some.inj ho; clear ho; subst ho2
            have r92 : a.tmps.getD 92 undef = undef := (hk 92 (Flow.mem_looks (by kernel_rfl))).by_ 15 (by kernel_rfl) (by decide)
            have r88 : a.tmps.getD 88 undef = undef := (hk 88 (Flow.mem_looks (by kernel_rfl))).by_ 11 (by kernel_rfl) (by decide)
            rw [if_neg (by rw [Flow.unwanted_undef rfl (t := 88) (by kernel_rfl) r88]; decide)]
            exact rfl
          | 17, ho =>
            have ho2 := Option.some.inj ho; clear ho; subst ho2
            have r3 : a.tmps.getD 3 undef = .slice A3 k c3 := (hk 3 (Flow.mem_looks (by kernel_rfl))).before (by kernel_rfl)
            have r88 : a.tmps.getD 88 undef = undef := (hk 88 (Flow.mem_looks (by kernel_rfl))).by_ 11 (by kernel_rfl) (by decide)
            rw [if_neg (by rw [Flow.unwanted_undef rfl (t := 88) (by kernel_rfl) r88]; decide)]
            exact rfl
          | 18, ho =>
            have ho2 := Option.some.inj ho; clear ho; subst ho2
            have r94 : a.tmps.getD 94 undef = undef := (hk 94 (Flow.mem_looks (by kernel_rfl))).by_ 17 (by kernel_rfl) (by decide)
            have r88 : a.tmps.getD 88 undef = undef := (hk 88 (Flow.mem_looks (by kernel_rfl))).by_ 11 (by kernel_rfl) (by decide)
            rw [if_neg (by rw [Flow.unwanted_undef rfl (t := 88) (by kernel_rfl) r88]; decide)]
            exact rfl
          | 19, ho =>
            have ho2 := Option.some.inj ho; clear ho; subst ho2
            have r93 : a.tmps.getD 93 undef = undef := (hk 93 (Flow.mem_looks (by kernel_rfl))).by_ 16 (by kernel_rfl) (by decide)
            have r95 : a.tmps.getD 95 undef = undef := (hk 95 (Flow.mem_looks (by kernel_rfl))).by_ 18 (by kernel_rfl) (by decide)
            have r88 : a.tmps.getD 88 undef = undef := (hk 88 (Flow.mem_looks (by kernel_rfl))).by_ 11 (by kernel_rfl) (by decide)
            rw [if_neg (by rw [Flow.unwanted_undef rfl (t := 88) (by kernel_rfl) r88]; decide)]
            exact rfl
          | 20, ho =>
            have ho2 := Option.some.inj ho; clear ho; subst ho2
            have r88 : a.tmps.getD 88 undef = undef := (hk 88 (Flow.mem_looks (by kernel_rfl))).by_ 11 (by kernel_rfl) (by decide)
            have r96 : a.tmps.getD 96 undef = undef := (hk 96 (Flow.mem_looks (by kernel_rfl))).by_ 19 (by kernel_rfl) (by decide)
            have r86 : a.tmps.getD 86 undef = .bool true := (hk 86 (Flow.mem_looks (by kernel_rfl))).by_ 9 (by kernel_rfl) (by decide)
            rw [if_neg (by rw [Flow.unwanted_by rfl (t := 86) (by kernel_rfl) r86]; decide)]
            exact rfl
          | 21, ho =>
            have ho2 := Option.some.inj ho; clear ho; subst ho2
            have r86 : a.tmps.getD 86 undef = .bool true := (hk 86 (Flow.mem_looks (by kernel_rfl))).by_ 9 (by kernel_rfl) (by decide)
            have r97 : a.tmps.getD 97 undef = undef := (hk 97 (Flow.mem_looks (by kernel_rfl))).by_ 20 (by kernel_rfl) (by decide)
            have r78 : a.tmps.getD 78 undef = .bool true := (hk 78 (Flow.mem_looks (by kernel_rfl))).by_ 1 (by kernel_rfl) (by decide)
            rw [if_pos (Flow.wanted_by (t := 78) rfl (by kernel_rfl) r78)]
            refine Flow.step_value (v := .bool true) ?_ ⟨Below.refl _ _, rfl⟩
            simp [execOp, Act.eval, r86, r97, go_sem]
          | 22, ho =>
            have ho2 := Option.some.inj ho; clear ho; subst ho2
            have r78 : a.tmps.getD 78 undef = .bool true := (hk 78 (Flow.mem_looks (by kernel_rfl))).by_ 1 (by kernel_rfl) (by decide)
            have r98 : a.tmps.getD 98 undef = .bool true := (hk 98 (Flow.mem_looks (by kernel_rfl))).by_ 21 (by kernel_rfl) (by decide)
            rw [if_pos (Flow.wanted_free rfl _)]
            refine Flow.step_value (v := .bool true) ?_ ⟨Below.refl _ _, rfl⟩
            simp [execOp, Act.eval, r78, r98, go_sem]
          | 23, ho =>
            have ho2 := Option.some.inj ho; clear ho; subst ho2
            have r99 : a.tmps.getD 99 undef = .bool true := (hk 99 (Flow.mem_looks (by kernel_rfl))).by_ 22 (by kernel_rfl) (by decide)
            rw [if_pos (Flow.wanted_free rfl _)]
            refine Flow.step_value (v := .bool true) ?_ ⟨Below.refl _ _, rfl⟩
            simp [execOp, Act.eval, r99, go_sem]
          | _ + 24, ho => exact absurd ho (by simp)
        case fin =>
          intro a w5 hw5 hd5 hs5 hg hold
          have r := hg 23 _ 8 rfl rfl
          refine (‹∀ (a : Act) (w : World), Code.wp _ Code.ret _ a w → _›) _ _ ?_
          refine wp_ret ?_
          refine bodyPost_ret (results_tmp rfl _ _ _) hd5 ⟨?_, below_trans B3.out hw5 B3.out.size⟩
          exact congrArg Ending.returned r
      | true =>
        have YV := Lib.hid (show Bytes vv by rw [HV.out]; exact getv_bytes YS.out)
        have PB := Lib.hid (show put q p vv = ls by rw [HV.out]; exact gets_put_back HB.out.symm)
        refine Flow.wp_region_flow (by kernel_rfl) (G4t q p A3 k c3 ls vv A13 c13) (by kernel_rfl) (G4t_stable q p A3 k c3 ls vv A13 c13) ?loc ?fin
        case loc =>
          intro i o ho a w hw hk
          match i, ho with
          | 0, ho =>
            have ho2 := Option.some.inj ho; clear ho; subst ho2
            have r9 : a.tmps.getD 9 undef = .bool true := (hk 9 (Flow.mem_looks (by kernel_rfl))).before (by kernel_rfl)
            rw [if_pos (Flow.wanted_free rfl _)]
            refine Flow.step_value (v := .bool true) ?_ ⟨Below.refl _ _, rfl⟩
            simp [execOp, Act.eval, r9, go_sem]
          | 1, ho =>
            have ho2 := Option.some.inj ho; clear ho; subst ho2
            have r77 : a.tmps.getD 77 undef = .bool true := (hk 77 (Flow.mem_looks (by kernel_rfl))).by_ 0 (by kernel_rfl) (by decide)
            rw [if_pos (Flow.wanted_free rfl _)]
            refine Flow.step_value (v := .bool true) ?_ ⟨Below.refl _ _, rfl⟩
            simp [execOp, Act.eval, r77, go_sem]
          | 2, ho =>
            have ho2 := Option.some.inj ho; clear ho; subst ho2
            have r14 : a.tmps.getD 14 undef = .bool true := (hk 14 (Flow.mem_looks (by kernel_rfl))).before (by kernel_rfl)
            have r78 : a.tmps.getD 78 undef = .bool true := (hk 78 (Flow.mem_looks (by kernel_rfl))).by_ 1 (by kernel_rfl) (by decide)
            rw [if_pos (Flow.wanted_by (t := 78) rfl (by kernel_rfl) r78)]
            refine Flow.step_value (v := .bool true) ?_ ⟨Below.refl _ _, rfl⟩
            simp [execOp, Act.eval, r14, go_sem]
          | 3, ho =>
            have ho2 := Option.some.inj ho; clear ho; subst ho2
            have r79 : a.tmps.getD 79 undef = .bool true := (hk 79 (Flow.mem_looks (by kernel_rfl))).by_ 2 (by kernel_rfl) (by decide)
            have r78 : a.tmps.getD 78 undef = .bool true := (hk 78 (Flow.mem_looks (by kernel_rfl))).by_ 1 (by kernel_rfl) (by decide)
            rw [if_pos (Flow.wanted_by (t := 78) rfl (by kernel_rfl) r78)]
            refine Flow.step_value (v := .bool false) ?_ ⟨Below.refl _ _, rfl⟩
            simp [execOp, Act.eval, r79, go_sem]
          | 4, ho =>
            have ho2 := Option.some.inj ho; clear ho; subst ho2
            have r80 : a.tmps.getD 80 undef = .bool false := (hk 80 (Flow.mem_looks (by kernel_rfl))).by_ 3 (by kernel_rfl) (by decide)
            have r78 : a.tmps.getD 78 undef = .bool true := (hk 78 (Flow.mem_looks (by kernel_rfl))).by_ 1 (by kernel_rfl) (by decide)
            rw [if_pos (Flow.wanted_by (t := 78) rfl (by kernel_rfl) r78)]
            refine Flow.step_value (v := .bool false) ?_ ⟨Below.refl _ _, rfl⟩
            simp [execOp, Act.eval, r80, go_sem]
          | 5, ho =>
            have ho2 := Option.some.inj ho; clear ho; subst ho2
            have r13 : a.tmps.getD 13 undef = .slice A13 vv.length c13 := (hk 13 (Flow.mem_looks (by kernel_rfl))).before (by kernel_rfl)
            have r81 : a.tmps.getD 81 undef = .bool false := (hk 81 (Flow.mem_looks (by kernel_rfl))).by_ 4 (by kernel_rfl) (by decide)
            rw [if_neg (by rw [Flow.unwanted_by rfl (t := 81) (by kernel_rfl) r81]; decide)]
            exact rfl
          | 6, ho =>
            have ho2 := Option.some.inj ho; clear ho; subst ho2
            have r82 : a.tmps.getD 82 undef = undef := (hk 82 (Flow.mem_looks (by kernel_rfl))).by_ 5 (by kernel_rfl) (by decide)
            have r81 : a.tmps.getD 81 undef = .bool false := (hk 81 (Flow.mem_looks (by kernel_rfl))).by_ 4 (by kernel_rfl) (by decide)
            rw [if_neg (by rw [Flow.unwanted_by rfl (t := 81) (by kernel_rfl) r81]; decide)]
            exact rfl
          | 7, ho =>
            have ho2 := Option.some.inj ho; clear ho; subst ho2
            have r83 : a.tmps.getD 83 undef = undef := (hk 83 (Flow.mem_looks (by kernel_rfl))).by_ 6 (by kernel_rfl) (by decide)
            have r81 : a.tmps.getD 81 undef = .bool false := (hk 81 (Flow.mem_looks (by kernel_rfl))).by_ 4 (by kernel_rfl) (by decide)
            rw [if_neg (by rw [Flow.unwanted_by rfl (t := 81) (by kernel_rfl) r81]; decide)]
            exact rfl
          | 8, ho =>
            have ho2 := Option.some.inj ho; clear ho; subst ho2
            have r81 : a.tmps.getD 81 undef = .bool false := (hk 81 (Flow.mem_looks (by kernel_rfl))).by_ 4 (by kernel_rfl) (by decide)
            have r84 : a.tmps.getD 84 undef = undef := (hk 84 (Flow.mem_looks (by kernel_rfl))).by_ 7 (by kernel_rfl) (by decide)
            have r78 : a.tmps.getD 78 undef = .bool true := (hk 78 (Flow.mem_looks (by kernel_rfl))).by_ 1 (by kernel_rfl) (by decide)
            rw [if_pos (Flow.wanted_by (t := 78) rfl (by kernel_rfl) r78)]
            refine Flow.step_value (v := .bool false) ?_ ⟨Below.refl _ _, rfl⟩
            simp [execOp, Act.eval, r81, r84, go_sem]
          | 9, ho =>
            have ho2 := Option.some.inj ho; clear ho; subst ho2
            have r85 : a.tmps.getD 85 undef = .bool false := (hk 85 (Flow.mem_looks (by kernel_rfl))).by_ 8 (by kernel_rfl) (by decide)
            have r78 : a.tmps.getD 78 undef = .bool true := (hk 78 (Flow.mem_looks (by kernel_rfl))).by_ 1 (by kernel_rfl) (by decide)
            rw [if_pos (Flow.wanted_by (t := 78) rfl (by kernel_rfl) r78)]
            refine Flow.step_value (v := .bool false) ?_ ⟨Below.refl _ _, rfl⟩
            simp [execOp, Act.eval, r85, go_sem]
          | 10, ho =>
            have ho2 := Option.some.inj ho; clear ho; subst ho2
            have r14 : a.tmps.getD 14 undef = .bool true := (hk 14 (Flow.mem_looks (by kernel_rfl))).before (by kernel_rfl)
            have r86 : a.tmps.getD 86 undef = .bool false := (hk 86 (Flow.mem_looks (by kernel_rfl))).by_ 9 (by kernel_rfl) (by decide)
            rw [if_pos (Flow.wanted_by (t := 86) rfl (by kernel_rfl) r86)]
            refine Flow.step_value (v := .bool true) ?_ ⟨Below.refl _ _, rfl⟩
            simp [execOp, Act.eval, r14, go_sem]
          | 11, ho =>
            have ho2 := Option.some.inj ho; clear ho; subst ho2
            have r87 : a.tmps.getD 87 undef = .bool true := (hk 87 (Flow.mem_looks (by kernel_rfl))).by_ 10 (by kernel_rfl) (by decide)
            have r86 : a.tmps.getD 86 undef = .bool false := (hk 86 (Flow.mem_looks (by kernel_rfl))).by_ 9 (by kernel_rfl) (by decide)
            rw [if_pos (Flow.wanted_by (t := 86) rfl (by kernel_rfl) r86)]
            refine Flow.step_value (v := .bool true) ?_ ⟨Below.refl _ _, rfl⟩
            simp [execOp, Act.eval, r87, go_sem]
          | 12, ho =>
            have ho2 := Option.some.inj ho; clear ho; subst ho2
            have r0 : a.tmps.getD 0 undef = .int .i64 q := (hk 0 (Flow.mem_looks (by kernel_rfl))).before (by kernel_rfl)
            have r88 : a.tmps.getD 88 undef = .bool true := (hk 88 (Flow.mem_looks (by kernel_rfl))).by_ 11 (by kernel_rfl) (by decide)
            rw [if_pos (Flow.wanted_by (t := 88) rfl (by kernel_rfl) r88)]
            refine Flow.step_value (v := .int .i64 q) ?_ ⟨Below.refl _ _, rfl⟩
            simp [execOp, Act.eval, r0, go_sem]
          | 13, ho =>
            have ho2 := Option.some.inj ho; clear ho; subst ho2
            have r1 : a.tmps.getD 1 undef = .int .i64 p := (hk 1 (Flow.mem_looks (by kernel_rfl))).before (by kernel_rfl)
            have r88 : a.tmps.getD 88 undef = .bool true := (hk 88 (Flow.mem_looks (by kernel_rfl))).by_ 11 (by kernel_rfl) (by decide)
            rw [if_pos (Flow.wanted_by (t := 88) rfl (by kernel_rfl) r88)]
            refine Flow.step_value (v := .int .i64 p) ?_ ⟨Below.refl _ _, rfl⟩
            simp [execOp, Act.eval, r1, go_sem]
          | 14, ho =>
            have ho2 := Option.some.inj ho; clear ho; subst ho2
            have r13 : a.tmps.getD 13 undef = .slice A13 vv.length c13 := (hk 13 (Flow.mem_looks (by kernel_rfl))).before (by kernel_rfl)
            have r88 : a.tmps.getD 88 undef = .bool true := (hk 88 (Flow.mem_looks (by kernel_rfl))).by_ 11 (by kernel_rfl) (by decide)
            rw [if_pos (Flow.wanted_by (t := 88) rfl (by kernel_rfl) r88)]
            refine Flow.step_value (v := .slice A13 vv.length c13) ?_ ⟨Below.refl _ _, rfl⟩
            simp [execOp, Act.eval, r13, go_sem]
          | 15, ho =>
            have ho2 := Option.some.inj ho; clear ho; subst ho2
            have r89 : a.tmps.getD 89 undef = .int .i64 q := (hk 89 (Flow.mem_looks (by kernel_rfl))).by_ 12 (by kernel_rfl) (by decide)
            have r90 : a.tmps.getD 90 undef = .int .i64 p := (hk 90 (Flow.mem_looks (by kernel_rfl))).by_ 13 (by kernel_rfl) (by decide)
            have r91 : a.tmps.getD 91 undef = .slice A13 vv.length c13 := (hk 91 (Flow.mem_looks (by kernel_rfl))).by_ 14 (by kernel_rfl) (by decide)
            have r88 : a.tmps.getD 88 undef = .bool true := (hk 88 (Flow.mem_looks (by kernel_rfl))).by_ 11 (by kernel_rfl) (by decide)
            rw [if_pos (Flow.wanted_by (t := 88) rfl (by kernel_rfl) r88)]
            refine Flow.step_call (f := 11) (args := #[.int .i64 q, .int .i64 p, .slice A13 vv.length c13]) (by simp [execOp, Act.eval, r89, r90, r91, go_sem]) ?_
            refine (put_any q p A13 vv.length c13 vv _ (RV.out.below hw) YV.out).mono ?_
            rintro e w1 ⟨⟨v1, rfl, ho1⟩, hb1⟩
            rw [PB.out] at ho1
            obtain ⟨A1, c1, rfl, hr1, _⟩ := ho1.rd
            exact ⟨_, rfl, hb1, A1, c1, rfl, hr1⟩
          | 16, ho =>
            have ho2 := Option.some.inj ho; clear ho; subst ho2
            have r92 := (hk 92 (Flow.mem_looks (by kernel_rfl))).by_ 15 (by kernel_rfl) (by decide)
            have r88 : a.tmps.getD 88 undef = .bool true := (hk 88 (Flow.mem_looks (by kernel_rfl))).by_ 11 (by kernel_rfl) (by decide)
            rw [if_pos (Flow.wanted_by (t := 88) rfl (by kernel_rfl) r88)]
            obtain ⟨A1, c1, e1, hr1⟩ := r92
            have h1 := hr1.text (P := Tryd.prog) Tryd.underlying22 Tryd.underlying5 Tryd.underlying9
            refine Flow.step_value (v := .string (strOfNums ls)) ?_ ⟨Below.refl _ _, rfl⟩
            simp [execOp, Act.eval, e1, h1, go_sem]
          | 17, ho =>
            have ho2 := Option.some.inj ho; clear ho; subst ho2
            have r3 : a.tmps.getD 3 undef = .slice A3 k c3 := (hk 3 (Flow.mem_looks (by kernel_rfl))).before (by kernel_rfl)
            have r88 : a.tmps.getD 88 undef = .bool true := (hk 88 (Flow.mem_looks (by kernel_rfl))).by_ 11 (by kernel_rfl) (by decide)
            rw [if_pos (Flow.wanted_by (t := 88) rfl (by kernel_rfl) r88)]
            refine Flow.step_value (v := .slice A3 k c3) ?_ ⟨Below.refl _ _, rfl⟩
            simp [execOp, Act.eval, r3, go_sem]
          | 18, ho =>
            have ho2 := Option.some.inj ho; clear ho; subst ho2
            have r94 : a.tmps.getD 94 undef = .slice A3 k c3 := (hk 94 (Flow.mem_looks (by kernel_rfl))).by_ 17 (by kernel_rfl) (by decide)
            have r88 : a.tmps.getD 88 undef = .bool true := (hk 88 (Flow.mem_looks (by kernel_rfl))).by_ 11 (by kernel_rfl) (by decide)
            rw [if_pos (Flow.wanted_by (t := 88) rfl (by kernel_rfl) r88)]
            have h1 := (RS.out.below hw).text (P := Tryd.prog) Tryd.underlying22 Tryd.underlying5 Tryd.underlying9
            refine Flow.step_value (v := .string (strOfNums ls)) ?_ ⟨Below.refl _ _, rfl⟩
            simp [execOp, Act.eval, r94, h1, go_sem]
          | 19, ho =>
            have ho2 := Option.some.inj ho; clear ho; subst ho2
            have r93 : a.tmps.getD 93 undef = .string (strOfNums ls) := (hk 93 (Flow.mem_looks (by kernel_rfl))).by_ 16 (by kernel_rfl) (by decide)
            have r95 : a.tmps.getD 95 undef = .string (strOfNums ls) := (hk 95 (Flow.mem_looks (by kernel_rfl))).by_ 18 (by kernel_rfl) (by decide)
            have r88 : a.tmps.getD 88 undef = .bool true := (hk 88 (Flow.mem_looks (by kernel_rfl))).by_ 11 (by kernel_rfl) (by decide)
            rw [if_pos (Flow.wanted_by (t := 88) rfl (by kernel_rfl) r88)]
            refine Flow.step_value (v := .bool true) ?_ ⟨Below.refl _ _, rfl⟩
            simp [execOp, Act.eval, r93, r95, go_sem]
          | 20, ho =>
            have ho2 := Option.some.inj ho; clear ho; subst ho2
            have r88 : a.tmps.getD 88 undef = .bool true := (hk 88 (Flow.mem_looks (by kernel_rfl))).by_ 11 (by kernel_rfl) (by decide)
            have r96 : a.tmps.getD 96 undef = .bool true := (hk 96 (Flow.mem_looks (by kernel_rfl))).by_ 19 (by kernel_rfl) (by decide)
            have r86 : a.tmps.getD 86 undef = .bool false := (hk 86 (Flow.mem_looks (by kernel_rfl))).by_ 9 (by kernel_rfl) (by decide)
            rw [if_pos (Flow.wanted_by (t := 86) rfl (by kernel_rfl) r86)]
            refine Flow.step_value (v := .bool true) ?_ ⟨Below.refl _ _, rfl⟩
            simp [execOp, Act.eval, r88, r96, go_sem]
          | 21, ho =>
            have ho2 := Option.some.inj ho; clear ho; subst ho2
            have r86 : a.tmps.getD 86 undef = .bool false := (hk 86 (Flow.mem_looks (by kernel_rfl))).by_ 9 (by kernel_rfl) (by decide)
            have r97 : a.tmps.getD 97 undef = .bool true := (hk 97 (Flow.mem_looks (by kernel_rfl))).by_ 20 (by kernel_rfl) (by decide)
            have r78 : a.tmps.getD 78 undef = .bool true := (hk 78 (Flow.mem_looks (by kernel_rfl))).by_ 1 (by kernel_rfl) (by decide)
            rw [if_pos (Flow.wanted_by (t := 78) rfl (by kernel_rfl) r78)]
            refine Flow.step_value (v := .bool true) ?_ ⟨Below.refl _ _, rfl⟩
            simp [execOp, Act.eval, r86, r97, go_sem]
          | 22, ho =>
            have ho2 := Option.some.inj ho; clear ho; subst ho2
            have r78 : a.tmps.getD 78 undef = .bool true := (hk 78 (Flow.mem_looks (by kernel_rfl))).by_ 1 (by kernel_rfl) (by decide)
            have r98 : a.tmps.getD 98 undef = .bool true := (hk 98 (Flow.mem_looks (by kernel_rfl))).by_ 21 (by kernel_rfl) (by decide)
            rw [if_pos (Flow.wanted_free rfl _)]
            refine Flow.step_value (v := .bool true) ?_ ⟨Below.refl _ _, rfl⟩
            simp [execOp, Act.eval, r78, r98, go_sem]
          | 23, ho =>
            have ho2 := Option.some.inj ho; clear ho; subst ho2
            have r99 : a.tmps.getD 99 undef = .bool true := (hk 99 (Flow.mem_looks (by kernel_rfl))).by_ 22 (by kernel_rfl) (by decide)
            rw [if_pos (Flow.wanted_free rfl _)]
            refine Flow.step_value (v := .bool true) ?_ ⟨Below.refl _ _, rfl⟩
            simp [execOp, Act.eval, r99, go_sem]
          | _ + 24, ho => exact absurd ho (by simp)
        case fin =>
          intro a w5 hw5 hd5 hs5 hg hold
          have r := hg 23 _ 8 rfl rfl
          refine (‹∀ (a : Act) (w : World), Code.wp _ Code.ret _ a w → _›) _ _ ?_
          refine wp_ret ?_
          refine bodyPost_ret (results_tmp rfl _ _ _) hd5 ⟨?_, below_trans B3.out hw5 B3.out.size⟩
          exact congrArg Ending.returned r
end Go.Proofs.YtjfpmjbbgmhjgaaDoor.Crc
