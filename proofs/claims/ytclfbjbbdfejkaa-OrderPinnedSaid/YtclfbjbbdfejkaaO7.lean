/- Two stretches of a row are swapped. -/
import Derived.Test.YtclfbjbbdfejkaaO6
namespace Go.Proofs.Ytclfbjbbdfejkaa.Ord
open Go.RowKit

def it0 : Item := ⟨0, 0, 0, 0, false⟩
def nth (L : List Item) (k : Nat) : Item := L.getD k it0
theorem nth_eq {L : List Item} {k : Nat} (h : k < L.length) : nth L k = L[k] := by unfold nth; rw [List.getD_eq_getElem?_getD, List.getElem?_eq_getElem h]; rfl
/-- Two are swapped. -/
def sw (L : List Item) (i j : Nat) : List Item := (L.set i (nth L j)).set j (nth L i)
theorem sw_length (L : List Item) (i j : Nat) : (sw L i j).length = L.length := by simp [sw]
/-- Two stretches, each of n, are swapped. -/
def swR (a b : Nat) : Nat → List Item → List Item
  | 0, L => L
  | n + 1, L => sw (swR a b n L) (a + n) (b + n)
theorem swR_length (a b : Nat) : ∀ n L, (swR a b n L).length = L.length
  | 0, _ => rfl
  | n + 1, L => by rw [swR, sw_length, swR_length a b n L]
theorem wrap_nat (n : Nat) (h : n ≤ 9223372036854775807) : IntKind.i64.wrap (n : Int) = n := by
  rw [IntKind.wrap_i64]; omega
theorem step_add {o : Oper} {a : Act} {w : World} {post : Value → World → Prop} (x y : Operand) (ho : o.op = .binOp .add 3 x y 3) (p q r : Nat) (hx : a.eval x = .int .i64 p) (hy : a.eval y = .int .i64 q) (hr : r = p + q) (hb : r ≤ 9223372036854775807) (hp : post (.int .i64 r) w) : Flow.step Try.prog o a w post := by
  refine Flow.step_value ?_ hp
  subst hr
  have := wrap_nat (p + q) hb
  push_cast at this
  unfold execOp
  simp only [ho, hx, hy]
  simp [this, go_sem]
theorem step_sub {o : Oper} {a : Act} {w : World} {post : Value → World → Prop} (x y : Operand) (ho : o.op = .binOp .sub 3 x y 3) (p q r : Nat) (hx : a.eval x = .int .i64 p) (hy : a.eval y = .int .i64 q) (hr : r = p - q) (hle : q ≤ p) (hb : p ≤ 9223372036854775807) (hp : post (.int .i64 r) w) : Flow.step Try.prog o a w post := by
  refine Flow.step_value ?_ hp
  subst hr
  have := wrap_nat (p - q) (by omega)
  rw [Int.ofNat_sub hle] at this
  unfold execOp
  simp only [ho, hx, hy]
  simp [this, Int.ofNat_sub hle, go_sem]
theorem step_index {o : Oper} {a : Act} {w : World} {post : Value → World → Prop} (x y : Operand) (ho : o.op = .indexAddr 22 x y) (g N c i : Nat) (hx : a.eval x = sl g N c) (hy : a.eval y = .int .i64 i) (hi : i < N) (hp : post (.pointer (some ⟨g, i * 5, none⟩)) w) : Flow.step Try.prog o a w post := by
  refine Flow.step_value ?_ hp
  have h1 : (i : Int) < N := by omega
  unfold execOp
  simp only [ho, hx, hy]
  simp [h1, add_off, sl, go_sem]
theorem step_store_mid {P : Program} {o : Oper} {a : Act} {w : World} {post : Value → World → Prop} (ty : TypeId) (x y : Operand) (ho : o.op = .store ty x y) (b of : Nat) (cells : Array Value) (hx : a.eval x = .pointer (some ⟨b, of, none⟩)) (hy : a.eval y = .agg cells)
    (ht : w.there b of cells.size) (hi : (P.info? ty).map (·.size) = some cells.size) (h1 : cells.all (·.oneCell') = true) (hp : ∀ v, post v (w.setCells b of cells.toList)) : Flow.step P o a w post := by
  unfold Flow.step execOp
  simp only [ho, hx, hy, Sem.run_bind, run_storeAt_mid w b of ty cells ht hi h1, Result.andThen_ok, Sem.run_pure]
  exact hp _
def G42 (g N c p q k : Nat) (x y : Item) : Nat → Value → World → Prop
  | 0 => fun v _ => v = sl g N c
  | 1 => fun v _ => v = .int .i64 p
  | 2 => fun v _ => v = .int .i64 k
  | 3 => fun v _ => v = .int .i64 (p + k : Nat)
  | 4 => fun v _ => v = sl g N c
  | 5 => fun v _ => v = .int .i64 q
  | 6 => fun v _ => v = .int .i64 k
  | 7 => fun v _ => v = .int .i64 (q + k : Nat)
  | 8 => fun v _ => v = sl g N c
  | 9 => fun v _ => v = .int .i64 q
  | 10 => fun v _ => v = .int .i64 k
  | 11 => fun v _ => v = .int .i64 (q + k : Nat)
  | 12 => fun v _ => v = .pointer (some ⟨g, (q + k) * 5, none⟩)
  | 13 => fun v _ => v = .agg y.cells.toArray
  | 14 => fun v _ => v = sl g N c
  | 15 => fun v _ => v = .int .i64 p
  | 16 => fun v _ => v = .int .i64 k
  | 17 => fun v _ => v = .int .i64 (p + k : Nat)
  | 18 => fun v _ => v = .pointer (some ⟨g, (p + k) * 5, none⟩)
  | 19 => fun v _ => v = .agg x.cells.toArray
  | 20 => fun v _ => v = .pointer (some ⟨g, (p + k) * 5, none⟩)
  | 21 => fun _ _ => True
  | 22 => fun v _ => v = .pointer (some ⟨g, (q + k) * 5, none⟩)
  | _ => fun _ _ => True
theorem G42_pure (g N c p q k : Nat) (x y : Item) : ∀ i v w w', G42 g N c p q k x y i v w → G42 g N c p q k x y i v w' := by
  intro i v w w' h
  match i, h with
  | 0, h => exact h
  | 1, h => exact h
  | 2, h => exact h
  | 3, h => exact h
  | 4, h => exact h
  | 5, h => exact h
  | 6, h => exact h
  | 7, h => exact h
  | 8, h => exact h
  | 9, h => exact h
  | 10, h => exact h
  | 11, h => exact h
  | 12, h => exact h
  | 13, h => exact h
  | 14, h => exact h
  | 15, h => exact h
  | 16, h => exact h
  | 17, h => exact h
  | 18, h => exact h
  | 19, h => exact h
  | 20, h => exact h
  | 21, h => exact h
  | 22, h => exact h
  | _ + 23, _ => exact trivial
set_option maxRecDepth 100000 in
set_option maxHeartbeats 4000000 in
theorem swapRange_any (base g N c p q m : Nat) (L : List Item) (f : Value) (w : World) (hO : OwnI w base (sl g N c) N L) (ha : p + m ≤ N) (hb : q + m ≤ N) (hN : N ≤ 100000) :
    Calls Try.prog 42 #[sl g N c, .int .i64 p, .int .i64 q, .int .i64 m, f] w (Turns w base g N c (swR p q m L)) := by
  have HO := Lib.hid hO
  have HL := Lib.hid hO.len
  clear hO
  go_enter Try.func42, Try.ntmps42
  go_wp2
  go_loopw [10] (fun i wr => ∃ k : Nat, k ≤ m ∧ i = .int .i64 k ∧ OwnI wr base (sl g N c) N (swR p q k L) ∧ w.grownBy wr (some g)) (fun i _ => m - (intOf i).toNat)
  case atStart => exact ⟨0, Nat.zero_le _, rfl, HO.out, grown_refl _ _⟩
  case round =>
    obtain ⟨k, hk, rfl, hown, hgr⟩ := hrel
    obtain ⟨M, hM⟩ : ∃ M, M = swR p q k L := ⟨_, rfl⟩
    rw [← hM] at hown
    have OW := Lib.hid hown
    have GR := Lib.hid hgr
    have HM := Lib.hid hM
    have ML := Lib.hid hown.len
    clear hown hgr hM
    by_cases hlt : k < m
    · have hkn : (k : Int) < m := by omega
      have h1 : p + k < N := by omega
      have h2 : q + k < N := by omega
      have ha2 : (p : Int) + k < N := by omega
      have hb2 : (q : Int) + k < N := by omega
      obtain ⟨x, hx⟩ : ∃ x, x = nth M (p + k) := ⟨_, rfl⟩
      obtain ⟨y, hy⟩ : ∃ y, y = nth M (q + k) := ⟨_, rfl⟩
      have HX := Lib.hid (show At wr g ((p + k) * 5) x.cells by rw [hx, nth_eq (by rw [ML.out]; exact h1)]; exact OW.out.at _)
      have HY := Lib.hid (show At wr g ((q + k) * 5) y.cells by rw [hy, nth_eq (by rw [ML.out]; exact h2)]; exact OW.out.at _)
      have EX := Lib.hid hx
      have EY := Lib.hid hy
      clear hx hy
      go_wp2_with fail
      refine Flow.wp_region_two (m := 23) (s := 21) (by kernel_rfl) [13, 19] (G42 g N c p q k x y) (fun w2 => OwnI w2 base (sl g N c) N (M.set (p + k) y) ∧ wr.grownBy w2 (some g)) (by kernel_rfl) rfl (by kernel_rfl) (G42_pure g N c p q k x y) ?loc ?locS ?fin
      case loc =>
        intro i o hi ho hne a w hL hk
        match i, hi, ho with
        | 0, _, ho =>
          have ho2 := Option.some.inj ho; clear ho; subst ho2
          have r0 : a.tmps.getD 0 undef = sl g N c := (hk 0 (Flow.mem_looks (by kernel_rfl))).before (by kernel_rfl)
          rw [if_pos (Flow.wanted_free rfl _)]
          refine Flow.step_value (v := sl g N c) ?_ ⟨rfl, rfl⟩
          simp [execOp, Act.eval, r0, go_sem]
        | 1, _, ho =>
          have ho2 := Option.some.inj ho; clear ho; subst ho2
          have r1 : a.tmps.getD 1 undef = .int .i64 p := (hk 1 (Flow.mem_looks (by kernel_rfl))).before (by kernel_rfl)
          rw [if_pos (Flow.wanted_free rfl _)]
          refine Flow.step_value (v := .int .i64 p) ?_ ⟨rfl, rfl⟩
          simp [execOp, Act.eval, r1, go_sem]
        | 2, _, ho =>
          have ho2 := Option.some.inj ho; clear ho; subst ho2
          have r10 : a.tmps.getD 10 undef = .int .i64 k := (hk 10 (Flow.mem_looks (by kernel_rfl))).before (by kernel_rfl)
          rw [if_pos (Flow.wanted_free rfl _)]
          refine Flow.step_value (v := .int .i64 k) ?_ ⟨rfl, rfl⟩
          simp [execOp, Act.eval, r10, go_sem]
        | 3, _, ho =>
          have ho2 := Option.some.inj ho; clear ho; subst ho2
          have r17 : a.tmps.getD 17 undef = .int .i64 p := (hk 17 (Flow.mem_looks (by kernel_rfl))).by_ 1 (by kernel_rfl) (by decide)
          have r18 : a.tmps.getD 18 undef = .int .i64 k := (hk 18 (Flow.mem_looks (by kernel_rfl))).by_ 2 (by kernel_rfl) (by decide)
          rw [if_pos (Flow.wanted_free rfl _)]
          refine step_add (.tmp 17) (.tmp 18) rfl _ _ (p + k) r17 r18 rfl (by omega) ⟨rfl, rfl⟩
        | 4, _, ho =>
          have ho2 := Option.some.inj ho; clear ho; subst ho2
          have r0 : a.tmps.getD 0 undef = sl g N c := (hk 0 (Flow.mem_looks (by kernel_rfl))).before (by kernel_rfl)
          rw [if_pos (Flow.wanted_free rfl _)]
          refine Flow.step_value (v := sl g N c) ?_ ⟨rfl, rfl⟩
          simp [execOp, Act.eval, r0, go_sem]
        | 5, _, ho =>
          have ho2 := Option.some.inj ho; clear ho; subst ho2
          have r2 : a.tmps.getD 2 undef = .int .i64 q := (hk 2 (Flow.mem_looks (by kernel_rfl))).before (by kernel_rfl)
          rw [if_pos (Flow.wanted_free rfl _)]
          refine Flow.step_value (v := .int .i64 q) ?_ ⟨rfl, rfl⟩
          simp [execOp, Act.eval, r2, go_sem]
        | 6, _, ho =>
          have ho2 := Option.some.inj ho; clear ho; subst ho2
          have r10 : a.tmps.getD 10 undef = .int .i64 k := (hk 10 (Flow.mem_looks (by kernel_rfl))).before (by kernel_rfl)
          rw [if_pos (Flow.wanted_free rfl _)]
          refine Flow.step_value (v := .int .i64 k) ?_ ⟨rfl, rfl⟩
          simp [execOp, Act.eval, r10, go_sem]
        | 7, _, ho =>
          have ho2 := Option.some.inj ho; clear ho; subst ho2
          have r21 : a.tmps.getD 21 undef = .int .i64 q := (hk 21 (Flow.mem_looks (by kernel_rfl))).by_ 5 (by kernel_rfl) (by decide)
          have r22 : a.tmps.getD 22 undef = .int .i64 k := (hk 22 (Flow.mem_looks (by kernel_rfl))).by_ 6 (by kernel_rfl) (by decide)
          rw [if_pos (Flow.wanted_free rfl _)]
          refine step_add (.tmp 21) (.tmp 22) rfl _ _ (q + k) r21 r22 rfl (by omega) ⟨rfl, rfl⟩
        | 8, _, ho =>
          have ho2 := Option.some.inj ho; clear ho; subst ho2
          have r0 : a.tmps.getD 0 undef = sl g N c := (hk 0 (Flow.mem_looks (by kernel_rfl))).before (by kernel_rfl)
          rw [if_pos (Flow.wanted_free rfl _)]
          refine Flow.step_value (v := sl g N c) ?_ ⟨rfl, rfl⟩
          simp [execOp, Act.eval, r0, go_sem]
        | 9, _, ho =>
          have ho2 := Option.some.inj ho; clear ho; subst ho2
          have r2 : a.tmps.getD 2 undef = .int .i64 q := (hk 2 (Flow.mem_looks (by kernel_rfl))).before (by kernel_rfl)
          rw [if_pos (Flow.wanted_free rfl _)]
          refine Flow.step_value (v := .int .i64 q) ?_ ⟨rfl, rfl⟩
          simp [execOp, Act.eval, r2, go_sem]
        | 10, _, ho =>
          have ho2 := Option.some.inj ho; clear ho; subst ho2
          have r10 : a.tmps.getD 10 undef = .int .i64 k := (hk 10 (Flow.mem_looks (by kernel_rfl))).before (by kernel_rfl)
          rw [if_pos (Flow.wanted_free rfl _)]
          refine Flow.step_value (v := .int .i64 k) ?_ ⟨rfl, rfl⟩
          simp [execOp, Act.eval, r10, go_sem]
        | 11, _, ho =>
          have ho2 := Option.some.inj ho; clear ho; subst ho2
          have r25 : a.tmps.getD 25 undef = .int .i64 q := (hk 25 (Flow.mem_looks (by kernel_rfl))).by_ 9 (by kernel_rfl) (by decide)
          have r26 : a.tmps.getD 26 undef = .int .i64 k := (hk 26 (Flow.mem_looks (by kernel_rfl))).by_ 10 (by kernel_rfl) (by decide)
          rw [if_pos (Flow.wanted_free rfl _)]
          refine step_add (.tmp 25) (.tmp 26) rfl _ _ (q + k) r25 r26 rfl (by omega) ⟨rfl, rfl⟩
        | 12, _, ho =>
          have ho2 := Option.some.inj ho; clear ho; subst ho2
          have r24 : a.tmps.getD 24 undef = sl g N c := (hk 24 (Flow.mem_looks (by kernel_rfl))).by_ 8 (by kernel_rfl) (by decide)
          have r27 : a.tmps.getD 27 undef = .int .i64 (q + k : Nat) := (hk 27 (Flow.mem_looks (by kernel_rfl))).by_ 11 (by kernel_rfl) (by decide)
          rw [if_pos (Flow.wanted_free rfl _)]
          refine step_index (.tmp 24) (.tmp 27) rfl g N c (q + k) r24 r27 h2 ⟨rfl, rfl⟩
        | 13, _, ho =>
          obtain rfl := hL (by decide)
          have ho2 := Option.some.inj ho; clear ho; subst ho2
          have r28 : a.tmps.getD 28 undef = .pointer (some ⟨g, (q + k) * 5, none⟩) := (hk 28 (Flow.mem_looks (by kernel_rfl))).by_ 12 (by kernel_rfl) (by decide)
          rw [if_pos (Flow.wanted_free rfl _)]
          refine step_load_mid 24 (.tmp 28) rfl g (_ * 5) r28 y.cells _ (HY.out.range) Try.underlying24 rfl (item_info y) ⟨rfl, rfl⟩
        | 14, _, ho =>
          have ho2 := Option.some.inj ho; clear ho; subst ho2
          have r0 : a.tmps.getD 0 undef = sl g N c := (hk 0 (Flow.mem_looks (by kernel_rfl))).before (by kernel_rfl)
          rw [if_pos (Flow.wanted_free rfl _)]
          refine Flow.step_value (v := sl g N c) ?_ ⟨rfl, rfl⟩
          simp [execOp, Act.eval, r0, go_sem]
        | 15, _, ho =>
          have ho2 := Option.some.inj ho; clear ho; subst ho2
          have r1 : a.tmps.getD 1 undef = .int .i64 p := (hk 1 (Flow.mem_looks (by kernel_rfl))).before (by kernel_rfl)
          rw [if_pos (Flow.wanted_free rfl _)]
          refine Flow.step_value (v := .int .i64 p) ?_ ⟨rfl, rfl⟩
          simp [execOp, Act.eval, r1, go_sem]
        | 16, _, ho =>
          have ho2 := Option.some.inj ho; clear ho; subst ho2
          have r10 : a.tmps.getD 10 undef = .int .i64 k := (hk 10 (Flow.mem_looks (by kernel_rfl))).before (by kernel_rfl)
          rw [if_pos (Flow.wanted_free rfl _)]
          refine Flow.step_value (v := .int .i64 k) ?_ ⟨rfl, rfl⟩
          simp [execOp, Act.eval, r10, go_sem]
        | 17, _, ho =>
          have ho2 := Option.some.inj ho; clear ho; subst ho2
          have r31 : a.tmps.getD 31 undef = .int .i64 p := (hk 31 (Flow.mem_looks (by kernel_rfl))).by_ 15 (by kernel_rfl) (by decide)
          have r32 : a.tmps.getD 32 undef = .int .i64 k := (hk 32 (Flow.mem_looks (by kernel_rfl))).by_ 16 (by kernel_rfl) (by decide)
          rw [if_pos (Flow.wanted_free rfl _)]
          refine step_add (.tmp 31) (.tmp 32) rfl _ _ (p + k) r31 r32 rfl (by omega) ⟨rfl, rfl⟩
        | 18, _, ho =>
          have ho2 := Option.some.inj ho; clear ho; subst ho2
          have r30 : a.tmps.getD 30 undef = sl g N c := (hk 30 (Flow.mem_looks (by kernel_rfl))).by_ 14 (by kernel_rfl) (by decide)
          have r33 : a.tmps.getD 33 undef = .int .i64 (p + k : Nat) := (hk 33 (Flow.mem_looks (by kernel_rfl))).by_ 17 (by kernel_rfl) (by decide)
          rw [if_pos (Flow.wanted_free rfl _)]
          refine step_index (.tmp 30) (.tmp 33) rfl g N c (p + k) r30 r33 h1 ⟨rfl, rfl⟩
        | 19, _, ho =>
          obtain rfl := hL (by decide)
          have ho2 := Option.some.inj ho; clear ho; subst ho2
          have r34 : a.tmps.getD 34 undef = .pointer (some ⟨g, (p + k) * 5, none⟩) := (hk 34 (Flow.mem_looks (by kernel_rfl))).by_ 18 (by kernel_rfl) (by decide)
          rw [if_pos (Flow.wanted_free rfl _)]
          refine step_load_mid 24 (.tmp 34) rfl g (_ * 5) r34 x.cells _ (HX.out.range) Try.underlying24 rfl (item_info x) ⟨rfl, rfl⟩
        | 20, _, ho =>
          have ho2 := Option.some.inj ho; clear ho; subst ho2
          have r16 : a.tmps.getD 16 undef = sl g N c := (hk 16 (Flow.mem_looks (by kernel_rfl))).by_ 0 (by kernel_rfl) (by decide)
          have r19 : a.tmps.getD 19 undef = .int .i64 (p + k : Nat) := (hk 19 (Flow.mem_looks (by kernel_rfl))).by_ 3 (by kernel_rfl) (by decide)
          rw [if_pos (Flow.wanted_free rfl _)]
          refine step_index (.tmp 16) (.tmp 19) rfl g N c (p + k) r16 r19 h1 ⟨rfl, rfl⟩
        | 21, _, _ => exact absurd rfl hne
        | 22, _, ho =>
          have ho2 := Option.some.inj ho; clear ho; subst ho2
          have r20 : a.tmps.getD 20 undef = sl g N c := (hk 20 (Flow.mem_looks (by kernel_rfl))).by_ 4 (by kernel_rfl) (by decide)
          have r23 : a.tmps.getD 23 undef = .int .i64 (q + k : Nat) := (hk 23 (Flow.mem_looks (by kernel_rfl))).by_ 7 (by kernel_rfl) (by decide)
          rw [if_pos (Flow.wanted_free rfl _)]
          refine step_index (.tmp 20) (.tmp 23) rfl g N c (q + k) r20 r23 h2 ⟨rfl, rfl⟩
        | _ + 23, hi, _ => exact absurd hi (by omega)
      case locS =>
        intro o ho a hsz hk
        have ho2 := Option.some.inj ho; clear ho; subst ho2
        refine ⟨rfl, rfl, ?_⟩
        have r29 : a.tmps.getD 29 undef = .agg y.cells.toArray := (hk 29 (Flow.mem_looks (by kernel_rfl))).by_ 13 (by kernel_rfl) (by decide)
        have r36 : a.tmps.getD 36 undef = .pointer (some ⟨g, (p + k) * 5, none⟩) := (hk 36 (Flow.mem_looks (by kernel_rfl))).by_ 20 (by kernel_rfl) (by decide)
        refine step_store_mid 24 (.tmp 36) (.tmp 29) rfl g _ y.cells.toArray r36 r29 (OW.out.there (by omega)) (item_info y) (all_oneCell_toArray (item_one y)) ?_
        exact fun _ => ⟨OwnI.put (OwnI.drawn OW.out) h1 y, grown_trans (drawn_grown _ _) (grown_setCells _ _ _ _)⟩
      case fin =>
        intro a4 w4 hK hd4 hs4 hg hold
        have ea := Flow.act_eq (a := a4) [sl g N c, .int .i64 p, .int .i64 q, .int .i64 m, f, undef, undef, undef, undef, undef, .int .i64 k, a4.tmps.getD 11 undef, a4.tmps.getD 12 undef, a4.tmps.getD 13 undef, a4.tmps.getD 14 undef, a4.tmps.getD 15 undef, a4.tmps.getD 16 undef, a4.tmps.getD 17 undef, a4.tmps.getD 18 undef, a4.tmps.getD 19 undef, a4.tmps.getD 20 undef, a4.tmps.getD 21 undef, a4.tmps.getD 22 undef, a4.tmps.getD 23 undef, a4.tmps.getD 24 undef, a4.tmps.getD 25 undef, a4.tmps.getD 26 undef, a4.tmps.getD 27 undef, a4.tmps.getD 28 undef, a4.tmps.getD 29 undef, a4.tmps.getD 30 undef, a4.tmps.getD 31 undef, a4.tmps.getD 32 undef, a4.tmps.getD 33 undef, a4.tmps.getD 34 undef, .agg x.cells.toArray, a4.tmps.getD 36 undef, .pointer (some ⟨g, (q + k) * 5, none⟩)] hs4 hd4 (by
          intro t ht
          match t, ht with
          | 0, _ => exact Flow.old_at hold 0 (by kernel_rfl)
          | 1, _ => exact Flow.old_at hold 1 (by kernel_rfl)
          | 2, _ => exact Flow.old_at hold 2 (by kernel_rfl)
          | 3, _ => exact Flow.old_at hold 3 (by kernel_rfl)
          | 4, _ => exact Flow.old_at hold 4 (by kernel_rfl)
          | 5, _ => exact Flow.old_at hold 5 (by kernel_rfl)
          | 6, _ => exact Flow.old_at hold 6 (by kernel_rfl)
          | 7, _ => exact Flow.old_at hold 7 (by kernel_rfl)
          | 8, _ => exact Flow.old_at hold 8 (by kernel_rfl)
          | 9, _ => exact Flow.old_at hold 9 (by kernel_rfl)
          | 10, _ => exact Flow.old_at hold 10 (by kernel_rfl)
          | 11, _ => exact rfl
          | 12, _ => exact rfl
          | 13, _ => exact rfl
          | 14, _ => exact rfl
          | 15, _ => exact rfl
          | 16, _ => exact rfl
          | 17, _ => exact rfl
          | 18, _ => exact rfl
          | 19, _ => exact rfl
          | 20, _ => exact rfl
          | 21, _ => exact rfl
          | 22, _ => exact rfl
          | 23, _ => exact rfl
          | 24, _ => exact rfl
          | 25, _ => exact rfl
          | 26, _ => exact rfl
          | 27, _ => exact rfl
          | 28, _ => exact rfl
          | 29, _ => exact rfl
          | 30, _ => exact rfl
          | 31, _ => exact rfl
          | 32, _ => exact rfl
          | 33, _ => exact rfl
          | 34, _ => exact rfl
          | 35, _ => exact hg 19 _ 35 (by decide) rfl rfl
          | 36, _ => exact rfl
          | 37, _ => exact hg 22 _ 37 (by decide) rfl rfl
          | t + 38, ht => exact absurd ht (by simp))
        rw [ea]
        generalize a4.tmps.getD 11 undef = z11
        generalize a4.tmps.getD 12 undef = z12
        generalize a4.tmps.getD 13 undef = z13
        generalize a4.tmps.getD 14 undef = z14
        generalize a4.tmps.getD 15 undef = z15
        generalize a4.tmps.getD 16 undef = z16
        generalize a4.tmps.getD 17 undef = z17
        generalize a4.tmps.getD 18 undef = z18
        generalize a4.tmps.getD 19 undef = z19
        generalize a4.tmps.getD 20 undef = z20
        generalize a4.tmps.getD 21 undef = z21
        generalize a4.tmps.getD 22 undef = z22
        generalize a4.tmps.getD 23 undef = z23
        generalize a4.tmps.getD 24 undef = z24
        generalize a4.tmps.getD 25 undef = z25
        generalize a4.tmps.getD 26 undef = z26
        generalize a4.tmps.getD 27 undef = z27
        generalize a4.tmps.getD 28 undef = z28
        generalize a4.tmps.getD 29 undef = z29
        generalize a4.tmps.getD 30 undef = z30
        generalize a4.tmps.getD 31 undef = z31
        generalize a4.tmps.getD 32 undef = z32
        generalize a4.tmps.getD 33 undef = z33
        generalize a4.tmps.getD 34 undef = z34
        generalize a4.tmps.getD 36 undef = z36
        clear ea
        have OW4 := Lib.hid hK.1
        have GR4 := Lib.hid hK.2
        clear hd4 hs4 hg hold hK
        refine wpList_store_mid rfl 24 (.tmp 37) (.tmp 35) rfl g ((q + k) * 5) x.cells.toArray rfl rfl (OW4.out.there h2) (item_info x) (all_oneCell_toArray (item_one x)) ?_
        obtain ⟨W5, hW5⟩ : ∃ W, W = w4.setCells g ((q + k) * 5) x.cells := ⟨_, rfl⟩
        show wpList _ _ _ _ _ (w4.setCells g ((q + k) * 5) x.cells)
        rw [← hW5]
        have OW5 := Lib.hid (show OwnI W5 base (sl g N c) N (swR p q (k + 1) L) by rw [hW5, swR, ← HM.out, sw, ← EX.out, ← EY.out]; exact OW4.out.put h2 x)
        have GR5 := Lib.hid (show w.grownBy W5 (some g) by rw [hW5]; exact grown_trans GR.out (grown_trans GR4.out (grown_setCells _ _ _ _)))
        clear hW5
        go_wp2
        go_roundw
        case rel => exact ⟨k + 1, by omega, by go_num, OW5.out, GR5.out⟩
        case measure => simp [intOf]; omega
    · have hkn : ¬ (k : Int) < m := by omega
      have hkm : k = m := by omega
      subst hkm
      go_wp2
      go_end0
      exact ⟨rfl, by rw [← HM.out]; exact OW.out, GR.out⟩
end Go.Proofs.Ytclfbjbbdfejkaa.Ord
