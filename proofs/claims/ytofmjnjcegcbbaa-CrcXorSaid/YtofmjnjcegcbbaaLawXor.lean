/- The walk of CrcXor. -/
import Derived.Test.YtofmjnjcegcbbaaLawBack
import Derived.Test.YtofmjnjcegcbbaaRef3
import Derived.Test.YtofmjnjcegcbbaaMathXor
import Derived.OwnWalk
import Derived.StillTailTactics
namespace Go.Proofs.Ytofmjnjcegcbbaa.Crc
open Go.RowKit CrcMath

/-- The smaller of two whole numbers. -/
def mn (a b : Int) : Int := if b < a then b else a
theorem min2_mn (k k' : IntKind) (x y : Int) : Builtin.min2 (.int k x) (.int k' y) = pure (.int k (mn x y)) := by simp only [Builtin.min2, mn]
theorem min_mn (ats : Array TypeId) (ty : TypeId) (a b : Value) : Builtin.min_ ats ty #[a, b] = (Builtin.min2 a b >>= fun s => pure s) := by simp only [Builtin.min_, List.foldlM_cons, List.foldlM_nil]
theorem made_bytes (n : Nat) : (madeCells (Value.int .u8 0).cells (n * 1)).toList = (List.replicate n (0 : Int)).map (Value.int .u8) := by
  apply List.ext_getElem
  · simp [madeCells]
  · intro i h1 h2
    simp [madeCells, Value.cells, Nat.mod_one]
theorem make_own (w : World) (n : Nat) (hn : n ≤ 9000) : ∃ g w', (Instr.makeSlice 23 (.int .i64 (n : Int)) (.int .i64 (n : Int))).run Try.prog w = .ok (.slice (some ⟨g, 0, none⟩) n n) w' ∧
    Own w' .u8 5 w.heap.size (.slice (some ⟨g, 0, none⟩) n n) n (List.replicate n 0) ∧ w.heap.size ≤ g ∧ Below w.heap.size w w' := by
  obtain ⟨i0, hi, hz0, hz1, hz2⟩ := info_parts info5
  obtain ⟨w2, hrun, ho, hg⟩ := run_make_full (P := Try.prog) w w.heap.size 23 5 i0 (.int .u8 0) 1 Try.underlying23 hi hz0 hz1 .i64 .i64 n (by rw [hz2]; omega) (by simp [maxLen]; omega) (Nat.le_refl _)
  rw [made_bytes] at ho
  exact ⟨w.heap.size, w2, hrun, ho, Nat.le_refl _, ⟨hg.os, hg.tape, hg.output, hg.size, fun k hk => hg.block k hk (by simp)⟩⟩
theorem mn3 {a b c n : Nat} (h : n = min a (min b c)) : mn a (mn b c) = n := by
  unfold mn
  split <;> split at * <;> omega
def G6 (g n : Nat) (A1 A2 A3 : Option Addr) (n1 n2 n3 c1 c2 c3 : Nat) (l1 l2 l3 : List Int) : Nat → Value → World → Prop
  | 0 => fun v _ => v = .bool true
  | 1 => fun v _ => v = .bool true
  | 2 => fun v _ => v = .slice (some ⟨g, 0, none⟩) n n
  | 3 => fun v _ => v = .int .u32 (N (more 0#32 (x3 l1 l2 l3)))
  | 4 => fun v _ => v = .slice A1 n1 c1
  | 5 => fun v _ => v = .int .i64 (n : Int)
  | 6 => fun v _ => v = .slice A1 n c1
  | 7 => fun v _ => v = .int .u32 (N (more 0#32 l1))
  | 8 => fun v _ => v = .slice A2 n2 c2
  | 9 => fun v _ => v = .int .i64 (n : Int)
  | 10 => fun v _ => v = .slice A2 n c2
  | 11 => fun v _ => v = .int .u32 (N (more 0#32 l2))
  | 12 => fun v _ => v = .int .u32 (bits .xor .u32 (N (more 0#32 l1)) (N (more 0#32 l2)))
  | 13 => fun v _ => v = .slice A3 n3 c3
  | 14 => fun v _ => v = .int .i64 (n : Int)
  | 15 => fun v _ => v = .slice A3 n c3
  | 16 => fun v _ => v = .int .u32 (N (more 0#32 l3))
  | 17 => fun v _ => v = .int .u32 (N (more 0#32 (x3 l1 l2 l3)))
  | 18 => fun v _ => v = .bool true
  | 19 => fun v _ => v = .bool true
  | 20 => fun v _ => v = .bool true
  | _ => fun _ _ => True
theorem G6_stable (g n : Nat) (A1 A2 A3 : Option Addr) (n1 n2 n3 c1 c2 c3 : Nat) (l1 l2 l3 : List Int) : ∀ i v w w', G6 g n A1 A2 A3 n1 n2 n3 c1 c2 c3 l1 l2 l3 i v w → Below w.heap.size w w' → G6 g n A1 A2 A3 n1 n2 n3 c1 c2 c3 l1 l2 l3 i v w' := by
  intro i v w w' h hb
  match i, h with
  | 0, h => exact h
  | 1, h => exact h
  | 2, h => exact h
  | 3, h => exact h
  | 4, h => exact h
  | 5, h => exact h
  | 6, h => exact h
  | 7, h => exact h
  | 8, h => exact h
  | 9, h => exact h
  | 10, h => exact h
  | 11, h => exact h
  | 12, h => exact h
  | 13, h => exact h
  | 14, h => exact h
  | 15, h => exact h
  | 16, h => exact h
  | 17, h => exact h
  | 18, h => exact h
  | 19, h => exact h
  | 20, h => exact h
  | _ + 21, _ => exact trivial
attribute [local go_sem] min2_mn min_mn
set_option maxHeartbeats 8000000 in
set_option maxRecDepth 100000 in
theorem CrcXor_walk (A1 : Option Addr) (n1 c1 : Nat) (z1 : List Int) (A2 : Option Addr) (n2 c2 : Nat) (z2 : List Int) (A3 : Option Addr) (n3 c3 : Nat) (z3 : List Int) (w : World)
    (h1 : IsRow .u8 w A1 n1 c1 z1) (_ : n1 * 1 ≤ 140737488351232) (h2 : IsRow .u8 w A2 n2 c2 z2) (_ : n2 * 1 ≤ 140737488351232) (h3 : IsRow .u8 w A3 n3 c3 z3) (_ : n3 * 1 ≤ 140737488351232) :
    Calls Try.prog 6 #[.slice A1 n1 c1, .slice A2 n2 c2, .slice A3 n3 c3] w fun e w' => e = .returned (.bool true) ∧ Below w.heap.size w w' := by
  obtain ⟨n, hn⟩ : ∃ n, n = min n1 (min n2 n3) := ⟨_, rfl⟩
  have m1 : n ≤ n1 := by omega
  have m2 : n ≤ n2 := by omega
  have m3 : n ≤ n3 := by omega
  have hm := mn3 hn
  have R1 := Lib.hid (h1.rd.take n m1)
  have R2 := Lib.hid (h2.rd.take n m2)
  have R3 := Lib.hid (h3.rd.take n m3)
  have Y1 := Lib.hid (take_bytes h1.bytes n)
  have Y2 := Lib.hid (take_bytes h2.bytes n)
  have Y3 := Lib.hid (take_bytes h3.bytes n)
  have s1 := Nat.le_trans h1.rd.le h1.rd.small
  have s2 := Nat.le_trans h2.rd.le h2.rd.small
  have s3 := Nat.le_trans h3.rd.le h3.rd.small
  have k1 := h1.rd.le
  have k2 := h2.rd.le
  have k3 := h3.rd.le
  generalize (z1.take n1).take n = l1 at R1 Y1
  generalize (z2.take n2).take n = l2 at R2 Y2
  generalize (z3.take n3).take n = l3 at R3 Y3
  clear h1 h2 h3 z1 z2 z3 hn
  by_cases h9 : (9000 : Int) < n
  · have hd : decide ((9000 : Int) < n) = true := decide_eq_true h9
    have hd2 : decide (9000 < n) = true := decide_eq_true (by omega)
    go_enter Try.func6, Try.ntmps6
    go_wp2_with fail
    refine (head_any _).mono ?_
    rintro e w1 ⟨rfl, hb1⟩
    have B1 := Lib.hid hb1
    clear hb1
    go_wp2_with fail
    go_ret
    exact ⟨rfl, B1.out⟩
  · have hd : decide ((9000 : Int) < n) = false := decide_eq_false h9
    have hd2 : decide (9000 < n) = false := decide_eq_false (by omega)
    go_enter Try.func6, Try.ntmps6
    go_wp2_with fail
    refine (head_any _).mono ?_
    rintro e w1 ⟨rfl, hb1⟩
    have B1 := Lib.hid hb1
    clear hb1
    obtain ⟨g, w2, hrun, ho2, hg2, hb2⟩ := make_own w1 n (by omega)
    have X2 := Lib.hid (below_trans B1.out hb2 B1.out.size)
    have O2 := Lib.hid ho2
    have HG := Lib.hid (Nat.le_trans B1.out.size hg2)
    clear ho2 hg2 hb2
    go_wp2_with fail
    clear hrun
    go_loopw [10] (fun i wr => ∃ k : Nat, k ≤ n ∧ i = .int .i64 k ∧ ∃ lk, Own wr .u8 5 w.heap.size (.slice (some ⟨g, 0, none⟩) n n) n lk ∧ (∀ j, j < k → lk.getD j 0 = bits .xor .u8 (bits .xor .u8 (l1.getD j 0) (l2.getD j 0)) (l3.getD j 0)) ∧ Below w.heap.size w wr) (fun i _ => n - (intOf i).toNat)
    case atStart => exact ⟨0, Nat.zero_le _, rfl, _, Own.lower O2.out B1.out.size, (fun j hj => absurd hj (Nat.not_lt_zero j)), X2.out⟩
    case round =>
      obtain ⟨k, hk, rfl, lk, ho, hat, hbel⟩ := hrel
      have O := Lib.hid ho
      have X := Lib.hid hbel
      have AT := Lib.hid hat
      clear ho hbel hat
      by_cases hlt : k < n
      · have hc := Own.cell O.out k hlt
        have hf := World.ownsRow.frozenAt O.out k
        obtain ⟨a1, rfl, hc1⟩ := (R1.out.below X.out).cell k hlt
        obtain ⟨a2, rfl, hc2⟩ := (R2.out.below X.out).cell k hlt
        obtain ⟨a3, rfl, hc3⟩ := (R3.out.below X.out).cell k hlt
        obtain ⟨y0, hy0⟩ : ∃ y, y = lk.getD k 0 := ⟨_, rfl⟩
        obtain ⟨y1, hy1⟩ : ∃ y, y = l1.getD k 0 := ⟨_, rfl⟩
        obtain ⟨y2, hy2⟩ : ∃ y, y = l2.getD k 0 := ⟨_, rfl⟩
        obtain ⟨y3, hy3⟩ : ∃ y, y = l3.getD k 0 := ⟨_, rfl⟩
        rw [← hy0] at hc
        rw [← hy1] at hc1
        rw [← hy2] at hc2
        rw [← hy3] at hc3
        have V1 := Lib.hid hy1
        have V2 := Lib.hid hy2
        have V3 := Lib.hid hy3
        clear hy0 hy1 hy2 hy3
        have b1 : (k : Int) < n1 := by omega
        have b2 : (k : Int) < n2 := by omega
        have b3 : (k : Int) < n3 := by omega
        go_wp2_with fail
        go_still_tail 17, (by kernel_rfl)
        change wpList _ _ _ _ _ (wr.drewN 1)
        obtain ⟨W, hW⟩ : ∃ W, W = wr.drewN 1 := ⟨_, rfl⟩
        rw [← hW]
        have OW : Own W .u8 5 w.heap.size (.slice (some ⟨g, 0, none⟩) n n) n lk := by rw [hW]; exact O.out
        have XW : Below w.heap.size w W := by rw [hW]; exact below_drewN2 X.out 1
        clear hc hf hc1 hc2 hc3 hW
        have hc := Own.cell OW k hlt
        have hf := World.ownsRow.frozenAt OW k
        obtain ⟨y0, hy0⟩ : ∃ y, y = lk.getD k 0 := ⟨_, rfl⟩
        rw [← hy0] at hc
        clear hy0
        have O' := Lib.hid OW
        have X' := Lib.hid XW
        clear OW XW O X
        go_wp2
        go_roundw
        case rel =>
          refine ⟨k + 1, by omega, by go_num, _, Own.store O'.out k _, ?_, X'.out.setCell HG.out _⟩
          intro j hj
          by_cases e : j = k
          · subst e
            rw [List.getD_eq_getElem?_getD, List.getElem?_set_self (by rw [O'.out.len]; omega), ← V1.out, ← V2.out, ← V3.out]
            rfl
          · rw [List.getD_eq_getElem?_getD, List.getElem?_set_ne (by omega), ← List.getD_eq_getElem?_getD]
            exact AT.out j (by omega)
        case measure => simp [intOf]; omega
      · have hx : lk = x3 l1 l2 l3 := x3_of R1.out.len R2.out.len R3.out.len O.out.len (fun j hj => AT.out j (by omega))
        obtain ⟨A, c, e, hr, _⟩ := O.out.rd
        cases e
        rw [hx] at hr
        have RX := Lib.hid hr
        have YX := Lib.hid (x3_bytes Y1.out Y2.out Y3.out)
        have Q1 := Lib.hid (R1.out.below X.out)
        have Q2 := Lib.hid (R2.out.below X.out)
        have Q3 := Lib.hid (R3.out.below X.out)
        clear hr hx
        go_wp2_with fail
        refine Flow.wp_region_flow (by kernel_rfl) (G6 g n A1 A2 A3 n1 n2 n3 c1 c2 c3 l1 l2 l3) (by kernel_rfl) (G6_stable g n A1 A2 A3 n1 n2 n3 c1 c2 c3 l1 l2 l3) ?loc ?fin
        case loc =>
          intro i o ho a w hw hk
          match i, ho with
          | 0, ho =>
            have ho2 := Option.some.inj ho; clear ho; subst ho2
            have r7 : a.tmps.getD 7 undef = .bool true := (hk 7 (Flow.mem_looks (by kernel_rfl))).before (by kernel_rfl)
            rw [if_pos (Flow.wanted_free rfl _)]
            refine Flow.step_value (v := .bool true) ?_ ⟨Below.refl _ _, rfl⟩
            simp [execOp, Act.eval, r7, go_sem]
          | 1, ho =>
            have ho2 := Option.some.inj ho; clear ho; subst ho2
            have r47 : a.tmps.getD 47 undef = .bool true := (hk 47 (Flow.mem_looks (by kernel_rfl))).by_ 0 (by kernel_rfl) (by decide)
            rw [if_pos (Flow.wanted_free rfl _)]
            refine Flow.step_value (v := .bool true) ?_ ⟨Below.refl _ _, rfl⟩
            simp [execOp, Act.eval, r47, go_sem]
          | 2, ho =>
            have ho2 := Option.some.inj ho; clear ho; subst ho2
            have r9 : a.tmps.getD 9 undef = .slice (some ⟨g, 0, none⟩) n n := (hk 9 (Flow.mem_looks (by kernel_rfl))).before (by kernel_rfl)
            have r48 : a.tmps.getD 48 undef = .bool true := (hk 48 (Flow.mem_looks (by kernel_rfl))).by_ 1 (by kernel_rfl) (by decide)
            rw [if_pos (Flow.wanted_by (t := 48) rfl (by kernel_rfl) r48)]
            refine Flow.step_value (v := .slice (some ⟨g, 0, none⟩) n n) ?_ ⟨Below.refl _ _, rfl⟩
            simp [execOp, Act.eval, r9, go_sem]
          | 3, ho =>
            have ho2 := Option.some.inj ho; clear ho; subst ho2
            have r49 : a.tmps.getD 49 undef = .slice (some ⟨g, 0, none⟩) n n := (hk 49 (Flow.mem_looks (by kernel_rfl))).by_ 2 (by kernel_rfl) (by decide)
            have r48 : a.tmps.getD 48 undef = .bool true := (hk 48 (Flow.mem_looks (by kernel_rfl))).by_ 1 (by kernel_rfl) (by decide)
            rw [if_pos (Flow.wanted_by (t := 48) rfl (by kernel_rfl) r48)]
            refine Flow.step_call (f := 12) (args := #[.slice (some ⟨g, 0, none⟩) n n]) (by simp [execOp, Act.eval, r49, go_sem]) ?_
            refine (of_any (some ⟨g, 0, none⟩) n n (x3 l1 l2 l3) _ (RX.out.below hw) YX.out).mono ?_
            rintro e w1 ⟨rfl, hb1⟩
            exact ⟨_, rfl, hb1, rfl⟩
          | 4, ho =>
            have ho2 := Option.some.inj ho; clear ho; subst ho2
            have r0 : a.tmps.getD 0 undef = .slice A1 n1 c1 := (hk 0 (Flow.mem_looks (by kernel_rfl))).before (by kernel_rfl)
            have r48 : a.tmps.getD 48 undef = .bool true := (hk 48 (Flow.mem_looks (by kernel_rfl))).by_ 1 (by kernel_rfl) (by decide)
            rw [if_pos (Flow.wanted_by (t := 48) rfl (by kernel_rfl) r48)]
            refine Flow.step_value (v := .slice A1 n1 c1) ?_ ⟨Below.refl _ _, rfl⟩
            simp [execOp, Act.eval, r0, go_sem]
          | 5, ho =>
            have ho2 := Option.some.inj ho; clear ho; subst ho2
            have r8 : a.tmps.getD 8 undef = .int .i64 (n : Int) := (hk 8 (Flow.mem_looks (by kernel_rfl))).before (by kernel_rfl)
            have r48 : a.tmps.getD 48 undef = .bool true := (hk 48 (Flow.mem_looks (by kernel_rfl))).by_ 1 (by kernel_rfl) (by decide)
            rw [if_pos (Flow.wanted_by (t := 48) rfl (by kernel_rfl) r48)]
            refine Flow.step_value (v := .int .i64 (n : Int)) ?_ ⟨Below.refl _ _, rfl⟩
            simp [execOp, Act.eval, r8, go_sem]
          | 6, ho =>
            have ho2 := Option.some.inj ho; clear ho; subst ho2
            have r51 : a.tmps.getD 51 undef = .slice A1 n1 c1 := (hk 51 (Flow.mem_looks (by kernel_rfl))).by_ 4 (by kernel_rfl) (by decide)
            have r52 : a.tmps.getD 52 undef = .int .i64 (n : Int) := (hk 52 (Flow.mem_looks (by kernel_rfl))).by_ 5 (by kernel_rfl) (by decide)
            have r48 : a.tmps.getD 48 undef = .bool true := (hk 48 (Flow.mem_looks (by kernel_rfl))).by_ 1 (by kernel_rfl) (by decide)
            rw [if_pos (Flow.wanted_by (t := 48) rfl (by kernel_rfl) r48)]
            refine Flow.step_value (v := .slice A1 n c1) ?_ ⟨Below.refl _ _, rfl⟩
            have e1 : (n : Int) ≤ c1 := by omega
            simp [execOp, Act.eval, r51, r52, go_sem, e1]
          | 7, ho =>
            have ho2 := Option.some.inj ho; clear ho; subst ho2
            have r53 : a.tmps.getD 53 undef = .slice A1 n c1 := (hk 53 (Flow.mem_looks (by kernel_rfl))).by_ 6 (by kernel_rfl) (by decide)
            have r48 : a.tmps.getD 48 undef = .bool true := (hk 48 (Flow.mem_looks (by kernel_rfl))).by_ 1 (by kernel_rfl) (by decide)
            rw [if_pos (Flow.wanted_by (t := 48) rfl (by kernel_rfl) r48)]
            refine Flow.step_call (f := 12) (args := #[.slice A1 n c1]) (by simp [execOp, Act.eval, r53, go_sem]) ?_
            refine (of_any A1 n c1 l1 _ (Q1.out.below hw) Y1.out).mono ?_
            rintro e w1 ⟨rfl, hb1⟩
            exact ⟨_, rfl, hb1, rfl⟩
          | 8, ho =>
            have ho2 := Option.some.inj ho; clear ho; subst ho2
            have r1 : a.tmps.getD 1 undef = .slice A2 n2 c2 := (hk 1 (Flow.mem_looks (by kernel_rfl))).before (by kernel_rfl)
            have r48 : a.tmps.getD 48 undef = .bool true := (hk 48 (Flow.mem_looks (by kernel_rfl))).by_ 1 (by kernel_rfl) (by decide)
            rw [if_pos (Flow.wanted_by (t := 48) rfl (by kernel_rfl) r48)]
            refine Flow.step_value (v := .slice A2 n2 c2) ?_ ⟨Below.refl _ _, rfl⟩
            simp [execOp, Act.eval, r1, go_sem]
          | 9, ho =>
            have ho2 := Option.some.inj ho; clear ho; subst ho2
            have r8 : a.tmps.getD 8 undef = .int .i64 (n : Int) := (hk 8 (Flow.mem_looks (by kernel_rfl))).before (by kernel_rfl)
            have r48 : a.tmps.getD 48 undef = .bool true := (hk 48 (Flow.mem_looks (by kernel_rfl))).by_ 1 (by kernel_rfl) (by decide)
            rw [if_pos (Flow.wanted_by (t := 48) rfl (by kernel_rfl) r48)]
            refine Flow.step_value (v := .int .i64 (n : Int)) ?_ ⟨Below.refl _ _, rfl⟩
            simp [execOp, Act.eval, r8, go_sem]
          | 10, ho =>
            have ho2 := Option.some.inj ho; clear ho; subst ho2
            have r55 : a.tmps.getD 55 undef = .slice A2 n2 c2 := (hk 55 (Flow.mem_looks (by kernel_rfl))).by_ 8 (by kernel_rfl) (by decide)
            have r56 : a.tmps.getD 56 undef = .int .i64 (n : Int) := (hk 56 (Flow.mem_looks (by kernel_rfl))).by_ 9 (by kernel_rfl) (by decide)
            have r48 : a.tmps.getD 48 undef = .bool true := (hk 48 (Flow.mem_looks (by kernel_rfl))).by_ 1 (by kernel_rfl) (by decide)
            rw [if_pos (Flow.wanted_by (t := 48) rfl (by kernel_rfl) r48)]
            refine Flow.step_value (v := .slice A2 n c2) ?_ ⟨Below.refl _ _, rfl⟩
            have e1 : (n : Int) ≤ c2 := by omega
            simp [execOp, Act.eval, r55, r56, go_sem, e1]
          | 11, ho =>
            have ho2 := Option.some.inj ho; clear ho; subst ho2
            have r57 : a.tmps.getD 57 undef = .slice A2 n c2 := (hk 57 (Flow.mem_looks (by kernel_rfl))).by_ 10 (by kernel_rfl) (by decide)
            have r48 : a.tmps.getD 48 undef = .bool true := (hk 48 (Flow.mem_looks (by kernel_rfl))).by_ 1 (by kernel_rfl) (by decide)
            rw [if_pos (Flow.wanted_by (t := 48) rfl (by kernel_rfl) r48)]
            refine Flow.step_call (f := 12) (args := #[.slice A2 n c2]) (by simp [execOp, Act.eval, r57, go_sem]) ?_
            refine (of_any A2 n c2 l2 _ (Q2.out.below hw) Y2.out).mono ?_
            rintro e w1 ⟨rfl, hb1⟩
            exact ⟨_, rfl, hb1, rfl⟩
          | 12, ho =>
            have ho2 := Option.some.inj ho; clear ho; subst ho2
            have r54 : a.tmps.getD 54 undef = .int .u32 (N (more 0#32 l1)) := (hk 54 (Flow.mem_looks (by kernel_rfl))).by_ 7 (by kernel_rfl) (by decide)
            have r58 : a.tmps.getD 58 undef = .int .u32 (N (more 0#32 l2)) := (hk 58 (Flow.mem_looks (by kernel_rfl))).by_ 11 (by kernel_rfl) (by decide)
            have r48 : a.tmps.getD 48 undef = .bool true := (hk 48 (Flow.mem_looks (by kernel_rfl))).by_ 1 (by kernel_rfl) (by decide)
            rw [if_pos (Flow.wanted_by (t := 48) rfl (by kernel_rfl) r48)]
            refine Flow.step_value (v := .int .u32 (bits .xor .u32 (N (more 0#32 l1)) (N (more 0#32 l2)))) ?_ ⟨Below.refl _ _, rfl⟩
            simp [execOp, Act.eval, r54, r58, go_sem]
          | 13, ho =>
            have ho2 := Option.some.inj ho; clear ho; subst ho2
            have r2 : a.tmps.getD 2 undef = .slice A3 n3 c3 := (hk 2 (Flow.mem_looks (by kernel_rfl))).before (by kernel_rfl)
            have r48 : a.tmps.getD 48 undef = .bool true := (hk 48 (Flow.mem_looks (by kernel_rfl))).by_ 1 (by kernel_rfl) (by decide)
            rw [if_pos (Flow.wanted_by (t := 48) rfl (by kernel_rfl) r48)]
            refine Flow.step_value (v := .slice A3 n3 c3) ?_ ⟨Below.refl _ _, rfl⟩
            simp [execOp, Act.eval, r2, go_sem]
          | 14, ho =>
            have ho2 := Option.some.inj ho; clear ho; subst ho2
            have r8 : a.tmps.getD 8 undef = .int .i64 (n : Int) := (hk 8 (Flow.mem_looks (by kernel_rfl))).before (by kernel_rfl)
            have r48 : a.tmps.getD 48 undef = .bool true := (hk 48 (Flow.mem_looks (by kernel_rfl))).by_ 1 (by kernel_rfl) (by decide)
            rw [if_pos (Flow.wanted_by (t := 48) rfl (by kernel_rfl) r48)]
            refine Flow.step_value (v := .int .i64 (n : Int)) ?_ ⟨Below.refl _ _, rfl⟩
            simp [execOp, Act.eval, r8, go_sem]
          | 15, ho =>
            have ho2 := Option.some.inj ho; clear ho; subst ho2
            have r60 : a.tmps.getD 60 undef = .slice A3 n3 c3 := (hk 60 (Flow.mem_looks (by kernel_rfl))).by_ 13 (by kernel_rfl) (by decide)
            have r61 : a.tmps.getD 61 undef = .int .i64 (n : Int) := (hk 61 (Flow.mem_looks (by kernel_rfl))).by_ 14 (by kernel_rfl) (by decide)
            have r48 : a.tmps.getD 48 undef = .bool true := (hk 48 (Flow.mem_looks (by kernel_rfl))).by_ 1 (by kernel_rfl) (by decide)
            rw [if_pos (Flow.wanted_by (t := 48) rfl (by kernel_rfl) r48)]
            refine Flow.step_value (v := .slice A3 n c3) ?_ ⟨Below.refl _ _, rfl⟩
            have e1 : (n : Int) ≤ c3 := by omega
            simp [execOp, Act.eval, r60, r61, go_sem, e1]
          | 16, ho =>
            have ho2 := Option.some.inj ho; clear ho; subst ho2
            have r62 : a.tmps.getD 62 undef = .slice A3 n c3 := (hk 62 (Flow.mem_looks (by kernel_rfl))).by_ 15 (by kernel_rfl) (by decide)
            have r48 : a.tmps.getD 48 undef = .bool true := (hk 48 (Flow.mem_looks (by kernel_rfl))).by_ 1 (by kernel_rfl) (by decide)
            rw [if_pos (Flow.wanted_by (t := 48) rfl (by kernel_rfl) r48)]
            refine Flow.step_call (f := 12) (args := #[.slice A3 n c3]) (by simp [execOp, Act.eval, r62, go_sem]) ?_
            refine (of_any A3 n c3 l3 _ (Q3.out.below hw) Y3.out).mono ?_
            rintro e w1 ⟨rfl, hb1⟩
            exact ⟨_, rfl, hb1, rfl⟩
          | 17, ho =>
            have ho2 := Option.some.inj ho; clear ho; subst ho2
            have r59 : a.tmps.getD 59 undef = .int .u32 (bits .xor .u32 (N (more 0#32 l1)) (N (more 0#32 l2))) := (hk 59 (Flow.mem_looks (by kernel_rfl))).by_ 12 (by kernel_rfl) (by decide)
            have r63 : a.tmps.getD 63 undef = .int .u32 (N (more 0#32 l3)) := (hk 63 (Flow.mem_looks (by kernel_rfl))).by_ 16 (by kernel_rfl) (by decide)
            have r48 : a.tmps.getD 48 undef = .bool true := (hk 48 (Flow.mem_looks (by kernel_rfl))).by_ 1 (by kernel_rfl) (by decide)
            rw [if_pos (Flow.wanted_by (t := 48) rfl (by kernel_rfl) r48)]
            refine Flow.step_value (v := .int .u32 (N (more 0#32 (x3 l1 l2 l3)))) ?_ ⟨Below.refl _ _, rfl⟩
            have e := N_x3 R1.out.len R2.out.len R3.out.len Y1.out Y2.out Y3.out
            simp [execOp, Act.eval, r59, r63, go_sem, e]
          | 18, ho =>
            have ho2 := Option.some.inj ho; clear ho; subst ho2
            have r50 : a.tmps.getD 50 undef = .int .u32 (N (more 0#32 (x3 l1 l2 l3))) := (hk 50 (Flow.mem_looks (by kernel_rfl))).by_ 3 (by kernel_rfl) (by decide)
            have r64 : a.tmps.getD 64 undef = .int .u32 (N (more 0#32 (x3 l1 l2 l3))) := (hk 64 (Flow.mem_looks (by kernel_rfl))).by_ 17 (by kernel_rfl) (by decide)
            have r48 : a.tmps.getD 48 undef = .bool true := (hk 48 (Flow.mem_looks (by kernel_rfl))).by_ 1 (by kernel_rfl) (by decide)
            rw [if_pos (Flow.wanted_by (t := 48) rfl (by kernel_rfl) r48)]
            refine Flow.step_value (v := .bool true) ?_ ⟨Below.refl _ _, rfl⟩
            simp [execOp, Act.eval, r50, r64, go_sem]
          | 19, ho =>
            have ho2 := Option.some.inj ho; clear ho; subst ho2
            have r48 : a.tmps.getD 48 undef = .bool true := (hk 48 (Flow.mem_looks (by kernel_rfl))).by_ 1 (by kernel_rfl) (by decide)
            have r65 : a.tmps.getD 65 undef = .bool true := (hk 65 (Flow.mem_looks (by kernel_rfl))).by_ 18 (by kernel_rfl) (by decide)
            rw [if_pos (Flow.wanted_free rfl _)]
            refine Flow.step_value (v := .bool true) ?_ ⟨Below.refl _ _, rfl⟩
            simp [execOp, Act.eval, r48, r65, go_sem]
          | 20, ho =>
            have ho2 := Option.some.inj ho; clear ho; subst ho2
            have r66 : a.tmps.getD 66 undef = .bool true := (hk 66 (Flow.mem_looks (by kernel_rfl))).by_ 19 (by kernel_rfl) (by decide)
            rw [if_pos (Flow.wanted_free rfl _)]
            refine Flow.step_value (v := .bool true) ?_ ⟨Below.refl _ _, rfl⟩
            simp [execOp, Act.eval, r66, go_sem]
          | _ + 21, ho => exact absurd ho (by simp)
        case fin =>
          intro a w4 hw4 hd4 hs4 hg hold
          have r := hg 20 _ 6 rfl rfl
          refine (‹∀ (a : Act) (w : World), Code.wp _ Code.ret _ a w → _›) _ _ ?_
          refine wp_ret ?_
          refine bodyPost_ret (results_tmp rfl _ _ _) hd4 ⟨?_, below_trans X.out hw4 X.out.size⟩
          exact congrArg Ending.returned r
end Go.Proofs.Ytofmjnjcegcbbaa.Crc
