/- Are numbers, items alike; what stays. -/
import Derived.Test.YtclfbjbbdfejkaaO4
import Derived.Deep.QuietTactic
import Derived.BigQuiet
namespace Go.Proofs.Ytclfbjbbdfejkaa.Ord
open Go.RowKit

/-- Are two rows alike? -/
def same (l m : List Int) : Bool := decide (l = m)
theorem take_step {l m : List Int} {k : Nat} (h : l.take k = m.take k) (h1 : k < l.length) (h2 : k < m.length) (he : l.getD k 0 = m.getD k 0) : l.take (k + 1) = m.take (k + 1) := by
  rw [List.take_succ_eq_append_getElem h1, List.take_succ_eq_append_getElem h2, h]
  have e1 : l.getD k 0 = l[k] := by rw [List.getD_eq_getElem?_getD, List.getElem?_eq_getElem h1]; rfl
  have e2 : m.getD k 0 = m[k] := by rw [List.getD_eq_getElem?_getD, List.getElem?_eq_getElem h2]; rfl
  rw [e1, e2] at he
  rw [he]
set_option maxHeartbeats 1000000 in
theorem sameIds_any (A1 A2 : Option Addr) (n1 c1 n2 c2 : Nat) (l1 l2 : List Int) (w : World) (h1 : Rd w .i64 A1 n1 c1 l1) (h2 : Rd w .i64 A2 n2 c2 l2) :
    Calls Try.prog 20 #[.slice A1 n1 c1, .slice A2 n2 c2] w (SayB w (same l1 l2)) := by
  have b1 := h1.le
  have b2 := h1.small
  have H1 := Lib.hid h1
  have H2 := Lib.hid h2
  clear h1 h2
  by_cases hn : n1 = n2
  · subst hn
    have hd : ((n1 : Int) != n1) = false := by simp
    go_enter Try.func20, Try.ntmps20
    go_wp2
    go_loopw [5] (fun i wr => ∃ k : Nat, k ≤ n1 ∧ i = .int .i64 k ∧ l1.take k = l2.take k ∧ Below w.heap.size w wr) (fun i _ => n1 - (intOf i).toNat)
    case atStart => exact ⟨0, Nat.zero_le _, rfl, rfl, Below.refl _ _⟩
    case round =>
      obtain ⟨k, hk, rfl, heq, hb⟩ := hrel
      have R1 := H1.out.below hb
      have R2 := H2.out.below hb
      have E := Lib.hid heq
      have B := Lib.hid hb
      clear heq hb
      by_cases hlt : k < n1
      · obtain ⟨a1, rfl, hc1⟩ := R1.cell k hlt
        obtain ⟨a2, rfl, hc2⟩ := R2.cell k hlt
        have L1 := Lib.hid R1.len
        have L2 := Lib.hid R2.len
        clear R1 R2
        have hkn : (k : Int) < n1 := by omega
        obtain ⟨x, hx⟩ : ∃ x, x = l1.getD k 0 := ⟨_, rfl⟩
        obtain ⟨y, hy⟩ : ∃ y, y = l2.getD k 0 := ⟨_, rfl⟩
        rw [← hx] at hc1
        rw [← hy] at hc2
        have HX := Lib.hid hx
        have HY := Lib.hid hy
        clear hx hy
        by_cases hxy : x = y
        · subst hxy
          have hd2 : (x != x) = false := by simp
          go_wp2
          go_quiet (fail)
          go_wp2
          go_roundw
          case rel => exact ⟨k + 1, by omega, by go_num, take_step E.out (by rw [L1.out]; exact hlt) (by rw [L2.out]; exact hlt) (by rw [← HX.out, ← HY.out]), below_drewN2 B.out _⟩
          case measure => simp [intOf]; omega
        · have hd2 : (x != y) = true := by simpa using hxy
          have HF : Hid (same l1 l2 = false) := Lib.hid (decide_eq_false (fun e => hxy (by rw [HX.out, HY.out, e])))
          go_wp2
          go_quiet (fail)
          go_wp2
          go_ret
          exact ⟨by rw [HF.out]; rfl, below_drewN2 B.out _⟩
      · have hkk : k = n1 := by omega
        have hkn : ¬ (k : Int) < n1 := by omega
        have HF : Hid (same l1 l2 = true) := Lib.hid (decide_eq_true (by have h := E.out; rwa [List.take_of_length_le (by rw [R1.len]; omega), List.take_of_length_le (by rw [R2.len]; omega)] at h))
        clear hkk R1 R2
        go_wp2
        go_ret
        exact ⟨by rw [HF.out]; rfl, B.out⟩
  · have hd : ((n1 : Int) != n2) = true := by simpa using (show ¬ (n1 : Int) = n2 by omega)
    have HF : Hid (same l1 l2 = false) := Lib.hid (decide_eq_false (fun e => hn (by rw [← H1.out.len, ← H2.out.len, e])))
    clear hn
    go_enter Try.func20, Try.ntmps20
    go_wp2
    go_ret
    exact ⟨by rw [HF.out]; rfl, Below.refl _ _⟩

def G17 (b o n c b2 o2 c2 k : Nat) (x : Item) : Nat → Value → World → Prop
  | 0 => fun v _ => v = .slice (some ⟨b, o, none⟩) n c
  | 1 => fun v _ => v = .int .i64 k
  | 2 => fun v _ => v = .pointer (some ⟨b, o + k * 5, none⟩)
  | 3 => fun v _ => v = .agg x.cells.toArray
  | 4 => fun v _ => v = .slice (some ⟨b2, o2, none⟩) n c2
  | 5 => fun v _ => v = .int .i64 k
  | 6 => fun v _ => v = .pointer (some ⟨b2, o2 + k * 5, none⟩)
  | 7 => fun v _ => v = .agg x.cells.toArray
  | 8 => fun v _ => v = .bool false
  | _ => fun _ _ => True
theorem G17_stable (b o n c b2 o2 c2 k : Nat) (x : Item) : ∀ i v w w', G17 b o n c b2 o2 c2 k x i v w → Below w.heap.size w w' → G17 b o n c b2 o2 c2 k x i v w' := by
  intro i v w w' h hb
  match i, h with
  | 0, h => exact h
  | 1, h => exact h
  | 2, h => exact h
  | 3, h => exact h
  | 4, h => exact h
  | 5, h => exact h
  | 6, h => exact h
  | 7, h => exact h
  | 8, h => exact h
  | _ + 9, _ => exact trivial
set_option maxRecDepth 100000 in
set_option maxHeartbeats 4000000 in
theorem sameI_any (A A2 : Option Addr) (n c c2 : Nat) (L : List Item) (w : World) (h1 : Its w A n c L) (h2 : Its w A2 n c2 L) :
    Calls Try.prog 17 #[.slice A n c, .slice A2 n c2] w (SayB w true) := by
  have b1 := h1.le
  have b2 := h1.small
  have H1 := Lib.hid h1
  have H2 := Lib.hid h2
  have HL := Lib.hid h1.len
  have hd : ((n : Int) != n) = false := by simp
  clear h1 h2
  go_enter Try.func17, Try.ntmps17
  go_wp2
  go_loopw [5] (fun i wr => ∃ k : Nat, k ≤ n ∧ i = .int .i64 k ∧ Below w.heap.size w wr) (fun i _ => n - (intOf i).toNat)
  case atStart => exact ⟨0, Nat.zero_le _, rfl, Below.refl _ _⟩
  case round =>
    obtain ⟨k, hk, rfl, hb⟩ := hrel
    have R1 := H1.out.below hb
    have R2 := H2.out.below hb
    have B := Lib.hid hb
    clear hb
    by_cases hlt : k < n
    · have hkn : (k : Int) < n := by omega
      have hkL : k < L.length := by rw [HL.out]; exact hlt
      obtain ⟨ad, hAd⟩ : ∃ ad, A = some ad := by
        cases A with
        | none => have := R1.nil rfl; omega
        | some ad => exact ⟨ad, rfl⟩
      obtain ⟨ad2, hAd2⟩ : ∃ ad, A2 = some ad := by
        cases A2 with
        | none => have := R2.nil rfl; have := R2.le; omega
        | some ad => exact ⟨ad, rfl⟩
      obtain ⟨b, o, rfl, hc1⟩ := R1.spot ad hAd (by omega)
      obtain ⟨b2, o2, rfl, hc2⟩ := R2.spot ad2 hAd2 (by omega)
      subst hAd
      subst hAd2
      have HA := Lib.hid (hc1 k hkL)
      have HB := Lib.hid (hc2 k hkL)
      obtain ⟨x, hx⟩ : ∃ x, x = L[k] := ⟨_, rfl⟩
      rw [← hx] at HA HB
      clear R1 R2 hc1 hc2 hx
      go_wp2_with fail
      refine Flow.wp_region_flow (by kernel_rfl) (G17 b o n c b2 o2 c2 k x) (by kernel_rfl) (G17_stable b o n c b2 o2 c2 k x) ?loc ?fin
      case loc =>
        intro i o ho a w hw hk
        match i, ho with
        | 0, ho =>
          have ho2 := Option.some.inj ho; clear ho; subst ho2
          have r0 : a.tmps.getD 0 undef = .slice (some ⟨b, o, none⟩) n c := (hk 0 (Flow.mem_looks (by kernel_rfl))).before (by kernel_rfl)
          rw [if_pos (Flow.wanted_free rfl _)]
          refine Flow.step_value (v := .slice (some ⟨b, o, none⟩) n c) ?_ ⟨Below.refl _ _, rfl⟩
          simp [execOp, Act.eval, r0, go_sem]
        | 1, ho =>
          have ho2 := Option.some.inj ho; clear ho; subst ho2
          have r5 : a.tmps.getD 5 undef = .int .i64 k := (hk 5 (Flow.mem_looks (by kernel_rfl))).before (by kernel_rfl)
          rw [if_pos (Flow.wanted_free rfl _)]
          refine Flow.step_value (v := .int .i64 k) ?_ ⟨Below.refl _ _, rfl⟩
          simp [execOp, Act.eval, r5, go_sem]
        | 2, ho =>
          have ho2 := Option.some.inj ho; clear ho; subst ho2
          have r17 : a.tmps.getD 17 undef = .slice (some ⟨b, o, none⟩) n c := (hk 17 (Flow.mem_looks (by kernel_rfl))).by_ 0 (by kernel_rfl) (by decide)
          have r18 : a.tmps.getD 18 undef = .int .i64 k := (hk 18 (Flow.mem_looks (by kernel_rfl))).by_ 1 (by kernel_rfl) (by decide)
          rw [if_pos (Flow.wanted_free rfl _)]
          refine Flow.step_value (v := .pointer (some ⟨b, o + k * 5, none⟩)) ?_ ⟨Below.refl _ _, rfl⟩
          simp [execOp, Act.eval, r17, r18, hkn, add_off, go_sem]
        | 3, ho =>
          have ho2 := Option.some.inj ho; clear ho; subst ho2
          have r19 : a.tmps.getD 19 undef = .pointer (some ⟨b, o + k * 5, none⟩) := (hk 19 (Flow.mem_looks (by kernel_rfl))).by_ 2 (by kernel_rfl) (by decide)
          rw [if_pos (Flow.wanted_free rfl _)]
          refine step_load_mid 24 (.tmp 19) rfl b (o + k * 5) r19 x.cells _ (HA.out.below hw).range Try.underlying24 rfl (item_info x) ⟨Below.refl _ _, rfl⟩
        | 4, ho =>
          have ho2 := Option.some.inj ho; clear ho; subst ho2
          have r1 : a.tmps.getD 1 undef = .slice (some ⟨b2, o2, none⟩) n c2 := (hk 1 (Flow.mem_looks (by kernel_rfl))).before (by kernel_rfl)
          rw [if_pos (Flow.wanted_free rfl _)]
          refine Flow.step_value (v := .slice (some ⟨b2, o2, none⟩) n c2) ?_ ⟨Below.refl _ _, rfl⟩
          simp [execOp, Act.eval, r1, go_sem]
        | 5, ho =>
          have ho2 := Option.some.inj ho; clear ho; subst ho2
          have r5 : a.tmps.getD 5 undef = .int .i64 k := (hk 5 (Flow.mem_looks (by kernel_rfl))).before (by kernel_rfl)
          rw [if_pos (Flow.wanted_free rfl _)]
          refine Flow.step_value (v := .int .i64 k) ?_ ⟨Below.refl _ _, rfl⟩
          simp [execOp, Act.eval, r5, go_sem]
        | 6, ho =>
          have ho2 := Option.some.inj ho; clear ho; subst ho2
          have r21 : a.tmps.getD 21 undef = .slice (some ⟨b2, o2, none⟩) n c2 := (hk 21 (Flow.mem_looks (by kernel_rfl))).by_ 4 (by kernel_rfl) (by decide)
          have r22 : a.tmps.getD 22 undef = .int .i64 k := (hk 22 (Flow.mem_looks (by kernel_rfl))).by_ 5 (by kernel_rfl) (by decide)
          rw [if_pos (Flow.wanted_free rfl _)]
          refine Flow.step_value (v := .pointer (some ⟨b2, o2 + k * 5, none⟩)) ?_ ⟨Below.refl _ _, rfl⟩
          simp [execOp, Act.eval, r21, r22, hkn, add_off, go_sem]
        | 7, ho =>
          have ho2 := Option.some.inj ho; clear ho; subst ho2
          have r23 : a.tmps.getD 23 undef = .pointer (some ⟨b2, o2 + k * 5, none⟩) := (hk 23 (Flow.mem_looks (by kernel_rfl))).by_ 6 (by kernel_rfl) (by decide)
          rw [if_pos (Flow.wanted_free rfl _)]
          refine step_load_mid 24 (.tmp 23) rfl b2 (o2 + k * 5) r23 x.cells _ (HB.out.below hw).range Try.underlying24 rfl (item_info x) ⟨Below.refl _ _, rfl⟩
        | 8, ho =>
          have ho2 := Option.some.inj ho; clear ho; subst ho2
          have r20 : a.tmps.getD 20 undef = .agg x.cells.toArray := (hk 20 (Flow.mem_looks (by kernel_rfl))).by_ 3 (by kernel_rfl) (by decide)
          have r24 : a.tmps.getD 24 undef = .agg x.cells.toArray := (hk 24 (Flow.mem_looks (by kernel_rfl))).by_ 7 (by kernel_rfl) (by decide)
          rw [if_pos (Flow.wanted_free rfl _)]
          refine Flow.step_value (v := .bool false) ?_ ⟨Below.refl _ _, rfl⟩
          simp [execOp, Act.eval, r20, r24, Item.cells, go_sem]
        | _ + 9, ho => exact absurd ho (by simp)
      case fin =>
        intro a4 w4 hw4 hd4 hs4 hg hold
        have ea := Flow.act_eq (a := a4) [.slice (some ⟨b, o, none⟩) n c, .slice (some ⟨b2, o2, none⟩) n c2, undef, undef, a4.tmps.getD 4 undef, .int .i64 k, .slice (some ⟨b, o, none⟩) n c, .int .i64 n, .slice (some ⟨b2, o2, none⟩) n c2, .int .i64 n, .bool false, a4.tmps.getD 11 undef, a4.tmps.getD 12 undef, a4.tmps.getD 13 undef, a4.tmps.getD 14 undef, a4.tmps.getD 15 undef, a4.tmps.getD 16 undef, a4.tmps.getD 17 undef, a4.tmps.getD 18 undef, a4.tmps.getD 19 undef, a4.tmps.getD 20 undef, a4.tmps.getD 21 undef, a4.tmps.getD 22 undef, a4.tmps.getD 23 undef, a4.tmps.getD 24 undef, .bool false] hs4 hd4 (by
          intro t ht
          match t, ht with
          | 0, _ => exact Flow.old_at hold 0 (by kernel_rfl)
          | 1, _ => exact Flow.old_at hold 1 (by kernel_rfl)
          | 2, _ => exact Flow.old_at hold 2 (by kernel_rfl)
          | 3, _ => exact Flow.old_at hold 3 (by kernel_rfl)
          | 4, _ => exact rfl
          | 5, _ => exact Flow.old_at hold 5 (by kernel_rfl)
          | 6, _ => exact Flow.old_at hold 6 (by kernel_rfl)
          | 7, _ => exact Flow.old_at hold 7 (by kernel_rfl)
          | 8, _ => exact Flow.old_at hold 8 (by kernel_rfl)
          | 9, _ => exact Flow.old_at hold 9 (by kernel_rfl)
          | 10, _ => exact Flow.old_at hold 10 (by kernel_rfl)
          | 11, _ => exact rfl
          | 12, _ => exact rfl
          | 13, _ => exact rfl
          | 14, _ => exact rfl
          | 15, _ => exact rfl
          | 16, _ => exact rfl
          | 17, _ => exact rfl
          | 18, _ => exact rfl
          | 19, _ => exact rfl
          | 20, _ => exact rfl
          | 21, _ => exact rfl
          | 22, _ => exact rfl
          | 23, _ => exact rfl
          | 24, _ => exact rfl
          | 25, _ => exact hg 8 _ 25 rfl rfl
          | t + 26, ht => exact absurd ht (by simp))
        rw [ea]
        generalize a4.tmps.getD 4 undef = z4
        generalize a4.tmps.getD 11 undef = z11
        generalize a4.tmps.getD 12 undef = z12
        generalize a4.tmps.getD 13 undef = z13
        generalize a4.tmps.getD 14 undef = z14
        generalize a4.tmps.getD 15 undef = z15
        generalize a4.tmps.getD 16 undef = z16
        generalize a4.tmps.getD 17 undef = z17
        generalize a4.tmps.getD 18 undef = z18
        generalize a4.tmps.getD 19 undef = z19
        generalize a4.tmps.getD 20 undef = z20
        generalize a4.tmps.getD 21 undef = z21
        generalize a4.tmps.getD 22 undef = z22
        generalize a4.tmps.getD 23 undef = z23
        generalize a4.tmps.getD 24 undef = z24
        clear ea
        have X4 := Lib.hid (below_trans B.out hw4 B.out.size)
        clear hd4 hs4 hg hold hw4
        refine (‹∀ (a : Act) (w : World), Code.wp _ _ _ a w → _›) _ _ ?_
        go_wp2
        go_roundw
        case rel => exact ⟨k + 1, by omega, by go_num, X4.out⟩
        case measure => simp [intOf]; omega
    · have hkn : ¬ (k : Int) < n := by omega
      clear R1 R2
      go_wp2
      go_ret
      exact ⟨rfl, B.out⟩
/-- Does an item not go? -/
def stays (x : Item) : Bool := !right x || x.pin
set_option maxHeartbeats 4000000 in
theorem stays_any (x : Item) (w : World) : Calls Try.prog 28 #[.agg x.cells.toArray] w (SayB w (stays x)) := by
  obtain ⟨X, hX⟩ : ∃ X, X = x.cells.toArray := ⟨_, rfl⟩
  rw [← hX]
  have HX := Lib.hid hX
  have HI5 := Lib.hid (show (Try.prog.info? 24).map (·.size) = some X.size by rw [hX]; exact item_info x)
  clear hX
  go_enter Try.func28, Try.ntmps28
  go_upto_region 1 with (fail)
  obtain ⟨W1, hW1⟩ : ∃ W, W = w.alloc (.cells X 24) := ⟨_, rfl⟩
  rw [← hW1]
  have B1 := Lib.hid (show Below w.heap.size w W1 by rw [hW1]; exact (Below.refl _ _).alloc (Nat.le_refl _) _)
  obtain ⟨g, hg⟩ : ∃ b, b = w.heap.size := ⟨_, rfl⟩
  rw [← hg]
  have HB := Lib.hid (show W1.heap[g]? = some (.cells X 24 (0, 0)) by rw [hW1, hg]; exact heap_alloc_new _ _)
  clear hW1 hg
  go_wp2_with (refine wpList_load_row rfl 24 (.tmp 1) rfl g rfl 24 X (0, 0) _ HB.out Try.underlying24 rfl HI5.out ?_)
  rw [HX.out]
  refine (right_any x W1).mono ?_
  rintro r W2 ⟨rfl, hb2⟩
  have hh := blk_below HB.out hb2
  rw [HX.out] at hh
  have c4 : W2.cell? ⟨g, 4, none⟩ = some (.bool x.pin) := at_item hh 4 (by rw [Item.cells_length]; decide)
  have B2 := Lib.hid (below_trans B1.out hb2 B1.out.size)
  obtain ⟨q, hq⟩ : ∃ q, q = right x := ⟨_, rfl⟩
  obtain ⟨p, hp⟩ : ∃ p, p = x.pin := ⟨_, rfl⟩
  have HS : Hid (stays x = (!q || p)) := Lib.hid (by rw [hq, hp]; rfl)
  rw [← hq]
  rw [← hp] at c4
  clear hh hb2 hq hp
  cases q with
  | false =>
    go_wp2
    go_ret
    exact ⟨by rw [HS.out]; rfl, B2.out⟩
  | true =>
    go_wp2
    go_ret
    exact ⟨by rw [HS.out]; rfl, B2.out⟩
end Go.Proofs.Ytclfbjbbdfejkaa.Ord
