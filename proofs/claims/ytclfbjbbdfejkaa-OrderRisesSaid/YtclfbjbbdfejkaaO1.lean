/- What two rows of numbers are to each other; an item: right, its key, which is first. -/
import Derived.Test.YtclfbjbbdfejkaaProg
import Derived.Test.YtclfbjbbdfejkaaBase
import Derived.Test.YtclfbjbbdfejkaaFlowTail
import Derived.KernelRfl
import Derived.Deep.MidRow
import Derived.Deep.WholeRow
import Derived.Deep.Cut
import Derived.Laws.Rows
import Derived.Laws.Tables
namespace Go.Proofs.Ytclfbjbbdfejkaa.Ord
open Go.RowKit

/-- What two rows of numbers are to each other: the first that differs tells. -/
def cmpL : List Int → List Int → Int
  | [], [] => 0
  | [], _ :: _ => -1
  | _ :: _, [] => 1
  | a :: l, b :: m => if a < b then -1 else if b < a then 1 else cmpL l m
def cmp1 (a b : Int) : Int := if a < b then -1 else if b < a then 1 else 0
theorem nan_any (x : Int) (w : World) : Calls Try.prog 38 #[.int .i64 x] w fun e w' => e = .returned (.bool false) ∧ w = w' := by
  go_enter Try.func38, Try.ntmps38
  go_wp2
  go_ret
  exact ⟨rfl, rfl⟩
theorem cmp1_any (a b : Int) (w : World) : Calls Try.prog 35 #[.int .i64 a, .int .i64 b] w fun e w' => e = .returned (.int .i64 (cmp1 a b)) ∧ w = w' := by
  rcases Int.lt_trichotomy a b with h | h | h
  · have hd : decide (a < b) = true := decide_eq_true h
    have e : cmp1 a b = -1 := by unfold cmp1; rw [if_pos h]
    rw [e]
    go_enter Try.func35, Try.ntmps35
    go_wp2_with fail
    refine (nan_any a _).mono ?_
    rintro e w1 ⟨rfl, rfl⟩
    go_wp2_with fail
    refine (nan_any b _).mono ?_
    rintro e w1 ⟨rfl, rfl⟩
    go_wp2
    go_ret
    exact ⟨rfl, rfl⟩
  · subst h
    have hd : decide (a < a) = false := decide_eq_false (by omega)
    have e : cmp1 a a = 0 := by unfold cmp1; rw [if_neg (by omega), if_neg (by omega)]
    rw [e]
    go_enter Try.func35, Try.ntmps35
    go_wp2_with fail
    refine (nan_any a _).mono ?_
    rintro e w1 ⟨rfl, rfl⟩
    go_wp2_with fail
    refine (nan_any a _).mono ?_
    rintro e w1 ⟨rfl, rfl⟩
    go_wp2
    go_ret
    exact ⟨rfl, rfl⟩
  · have hd : decide (a < b) = false := decide_eq_false (by omega)
    have hd2 : decide (b < a) = true := decide_eq_true h
    have e : cmp1 a b = 1 := by unfold cmp1; rw [if_neg (by omega), if_pos h]
    rw [e]
    go_enter Try.func35, Try.ntmps35
    go_wp2_with fail
    refine (nan_any a _).mono ?_
    rintro e w1 ⟨rfl, rfl⟩
    go_wp2_with fail
    refine (nan_any b _).mono ?_
    rintro e w1 ⟨rfl, rfl⟩
    go_wp2
    go_ret
    exact ⟨rfl, rfl⟩
theorem cmpL_step {a b : Int} {l m : List Int} : cmpL (a :: l) (b :: m) = if cmp1 a b = 0 then cmpL l m else cmp1 a b := by
  unfold cmp1
  simp only [cmpL]
  split
  · simp
  · split <;> simp
theorem cmpL_drop {l m : List Int} {k : Nat} (hl : k < l.length) (hm : k < m.length) : cmpL (l.drop k) (m.drop k) = if cmp1 (l.getD k 0) (m.getD k 0) = 0 then cmpL (l.drop (k + 1)) (m.drop (k + 1)) else cmp1 (l.getD k 0) (m.getD k 0) := by
  rw [List.drop_eq_getElem_cons hl, List.drop_eq_getElem_cons hm, cmpL_step, List.getD_eq_getElem?_getD, List.getElem?_eq_getElem hl, List.getD_eq_getElem?_getD, List.getElem?_eq_getElem hm]
  rfl
set_option maxHeartbeats 2000000 in
theorem compare_any (A : Option Addr) (n c : Nat) (l : List Int) (A2 : Option Addr) (n2 c2 : Nat) (l2 : List Int) (w : World) (hr : Rd w .i64 A n c l) (hr2 : Rd w .i64 A2 n2 c2 l2) :
    Calls Try.prog 26 #[.slice A n c, .slice A2 n2 c2] w fun e w' => e = .returned (.int .i64 (cmpL l l2)) ∧ w = w' := by
  have h1 := hr.le
  have h2 := hr.small
  have h3 := hr2.le
  have h4 := hr2.small
  have R := Lib.hid hr
  have R2 := Lib.hid hr2
  have L := Lib.hid hr.len
  have L2 := Lib.hid hr2.len
  clear hr hr2
  go_enter Try.func26, Try.ntmps26
  go_wp2_with fail
  go_loop [11] (fun i => ∃ k : Nat, k ≤ n ∧ k ≤ n2 ∧ i = .int .i64 k ∧ cmpL l l2 = cmpL (l.drop k) (l2.drop k)) (fun i => n - (intOf i).toNat)
  case atStart => exact ⟨0, Nat.zero_le _, Nat.zero_le _, rfl, rfl⟩
  case round =>
    obtain ⟨k, hk, hk2, rfl, heq⟩ := hrel
    have E := Lib.hid heq
    clear heq
    by_cases hlt : k < n
    · obtain ⟨ad, rfl, hc⟩ := R.out.cell k hlt
      have hkn : (k : Int) < n := by omega
      by_cases hlt2 : k < n2
      · obtain ⟨ad2, rfl, hc2⟩ := R2.out.cell k hlt2
        obtain ⟨x, hx⟩ : ∃ x, x = l.getD k 0 := ⟨_, rfl⟩
        obtain ⟨y, hy⟩ : ∃ y, y = l2.getD k 0 := ⟨_, rfl⟩
        rw [← hx] at hc
        rw [← hy] at hc2
        have hs := cmpL_drop (l := l) (m := l2) (k := k) (by rw [L.out]; exact hlt) (by rw [L2.out]; exact hlt2)
        rw [← hx, ← hy, ← E.out] at hs
        have HS := Lib.hid hs
        obtain ⟨z, hz⟩ : ∃ z, z = cmp1 x y := ⟨_, rfl⟩
        have HZ := Lib.hid hz
        clear hx hy hs hz
        have hd1 : decide ((n2 : Int) ≤ k) = false := decide_eq_false (by omega)
        go_wp2_with fail
        refine (cmp1_any x y _).mono ?_
        rintro e w1 ⟨rfl, rfl⟩
        rw [← HZ.out]
        by_cases hz0 : z = 0
        · subst hz0
          go_wp2
          go_round
          case rel => exact ⟨k + 1, by omega, by omega, by go_num, by rw [HS.out, ← HZ.out, if_pos rfl]⟩
          case measure => simp [intOf]; omega
        · have hdz : decide (z = 0) = false := decide_eq_false hz0
          have hdz2 : (z == 0) = false := by rw [beq_eq_false_iff_ne]; exact hz0
          have HN := Lib.hid hz0
          clear hz0
          go_wp2
          go_ret
          exact ⟨by rw [HS.out, ← HZ.out, if_neg HN.out]; rfl, rfl⟩
      · have hkk : k = n2 := by omega
        have hd1 : decide ((n2 : Int) ≤ k) = true := decide_eq_true (by omega)
        have e : cmpL l l2 = 1 := by
          rw [E.out, List.drop_of_length_le (l := l2) (by rw [L2.out]; omega), List.drop_eq_getElem_cons (by rw [L.out]; exact hlt)]
          rfl
        have HE := Lib.hid e
        clear e hkk
        go_wp2
        go_ret
        exact ⟨by rw [HE.out]; rfl, rfl⟩
    · have hkk : k = n := by omega
      have hkn : ¬ (k : Int) < n := by omega
      by_cases hlt2 : n < n2
      · have hd1 : decide ((n : Int) < n2) = true := decide_eq_true (by omega)
        have e : cmpL l l2 = -1 := by
          rw [E.out, List.drop_of_length_le (l := l) (by rw [L.out]; omega), List.drop_eq_getElem_cons (by rw [L2.out]; omega)]
          rfl
        have HE := Lib.hid e
        clear e hkk
        go_wp2
        go_ret
        exact ⟨by rw [HE.out]; rfl, rfl⟩
      · have hd1 : decide ((n : Int) < n2) = false := decide_eq_false (by omega)
        have e : cmpL l l2 = 0 := by
          rw [E.out, List.drop_of_length_le (l := l) (by rw [L.out]; omega), List.drop_of_length_le (by rw [L2.out]; omega)]
          rfl
        have HE := Lib.hid e
        clear e hkk
        go_wp2
        go_ret
        exact ⟨by rw [HE.out]; rfl, rfl⟩

structure Item where
  id : Int
  cls : Int
  tick : Int
  cost : Int
  pin : Bool
def Item.cells (x : Item) : List Value := [.int .i64 x.id, .int .i64 x.cls, .int .i64 x.tick, .int .i64 x.cost, .bool x.pin]
theorem Item.cells_length (x : Item) : x.cells.length = 5 := rfl
theorem item_one (x : Item) : ∀ v ∈ x.cells, v.oneCell' = true := by
  intro v hv
  simp [Item.cells] at hv
  rcases hv with rfl | rfl | rfl | rfl | rfl <;> rfl
theorem item_info (x : Item) : (Try.prog.info? 24).map (·.size) = some x.cells.length := by rw [Item.cells_length]; kernel_rfl
/-- What stands in a world from an offset of a block on. -/
def At (w : World) (b o : Nat) (cs : List Value) : Prop := ∀ j, (h : j < cs.length) → w.cell? ⟨b, o + j, none⟩ = some cs[j]
theorem At.below {w w1 : World} {b o : Nat} {cs : List Value} (h : At w b o cs) (hb : Below w.heap.size w w1) : At w1 b o cs :=
  fun j hj => (hb.cell (World.block_lt_of_cell? w _ (h j hj))).trans (h j hj)
theorem At.range {w : World} {b o : Nat} {cs : List Value} (h : At w b o cs) : w.rangeAt b o cs := by
  intro j v hv
  obtain ⟨hj, e⟩ := List.getElem?_eq_some_iff.1 hv
  rw [← e]
  exact h j hj
theorem at_alloc {w : World} {cs : List Value} (t : TypeId) : At (w.alloc (.cells cs.toArray t)) w.heap.size 0 cs := by
  intro j hj
  rw [Nat.zero_add, World.cell?_alloc_at _ _ _ _ rfl, List.getElem?_toArray, List.getElem?_eq_getElem hj]
theorem at_item {w : World} {g : Nat} {x : Item} {t : TypeId} (h : w.heap[g]? = some (.cells x.cells.toArray t (0, 0))) : At w g 0 x.cells := fun j hj => by simp [World.cell?, h, hj]
theorem blk_below {w w1 : World} {g : Nat} {X : Array Value} {t : TypeId} (h : w.heap[g]? = some (.cells X t (0, 0))) (hb : Below w.heap.size w w1) : w1.heap[g]? = some (.cells X t (0, 0)) := (hb.block g (Array.getElem?_eq_some_iff.1 h).1).trans h
theorem step_load_mid {P : Program} {o : Oper} {a : Act} {w : World} {post : Value → World → Prop} (ty : TypeId) (x : Operand) (ho : o.op = .load ty x) (b of : Nat) (hx : a.eval x = .pointer (some ⟨b, of, none⟩)) (cs : List Value) (d : TypeDesc) (hc : w.rangeAt b of cs)
    (hu : P.underlying ty = some d) (hd : d.isRow = true) (hi : (P.info? ty).map (·.size) = some cs.length) (hp : post (.agg cs.toArray) w) : Flow.step P o a w post := by
  refine Flow.step_value ?_ hp
  unfold execOp
  simp only [ho, hx, Instr.loadAt, Instr.sureAddr, Sem.run_bind, Sem.run_pure, Result.andThen_ok, run_loadVar_mid w b of ty cs d hc hu hd hi]
def SayB (w : World) (b : Bool) (e : Ending) (w' : World) : Prop := e = .returned (.bool b) ∧ Below w.heap.size w w'

/-- Is a number within two? -/
def wth (n a b : Int) : Bool := decide (a ≤ n) && decide (n ≤ b)
theorem within_any (n a b : Int) (w : World) : Calls Try.prog 22 #[.int .i64 n, .int .i64 a, .int .i64 b] w fun e w' => e = .returned (.bool (wth n a b)) ∧ w = w' := by
  obtain ⟨p, hp⟩ : ∃ p, p = decide (a ≤ n) := ⟨_, rfl⟩
  obtain ⟨q, hq⟩ : ∃ q, q = decide (n ≤ b) := ⟨_, rfl⟩
  have HW : Hid (wth n a b = (p && q)) := Lib.hid (by rw [hp, hq]; rfl)
  replace hp := hp.symm
  replace hq := hq.symm
  cases p <;> cases q
  all_goals
    go_enter Try.func22, Try.ntmps22
    go_wp2
    go_ret
    exact ⟨by rw [HW.out]; rfl, rfl⟩
theorem within2_any (n a b : Int) (w : World) : Calls Try.prog 25 #[.int .i64 n, .int .i64 a, .int .i64 b] w fun e w' => e = .returned (.bool (wth n a b)) ∧ w = w' := by
  obtain ⟨p, hp⟩ : ∃ p, p = decide (a ≤ n) := ⟨_, rfl⟩
  obtain ⟨q, hq⟩ : ∃ q, q = decide (n ≤ b) := ⟨_, rfl⟩
  have HW : Hid (wth n a b = (p && q)) := Lib.hid (by rw [hp, hq]; rfl)
  replace hp := hp.symm
  replace hq := hq.symm
  cases p <;> cases q
  all_goals
    go_enter Try.func25, Try.ntmps25
    go_wp2
    go_ret
    exact ⟨by rw [HW.out]; rfl, rfl⟩
/-- May an item be so? -/
def right (x : Item) : Bool := wth x.id 1 281474976710656 && (wth x.cls 0 7 && (wth x.tick 0 281474976710656 && wth x.cost 0 1048576))
set_option maxRecDepth 100000 in
set_option maxHeartbeats 4000000 in
theorem right_any (x : Item) (w : World) : Calls Try.prog 13 #[.agg x.cells.toArray] w (SayB w (right x)) := by
  obtain ⟨X, hX⟩ : ∃ X, X = x.cells.toArray := ⟨_, rfl⟩
  rw [← hX]
  have HX := Lib.hid hX
  clear hX
  obtain ⟨p1, h1⟩ : ∃ p, p = wth x.id 1 281474976710656 := ⟨_, rfl⟩
  obtain ⟨p2, h2⟩ : ∃ p, p = wth x.cls 0 7 := ⟨_, rfl⟩
  obtain ⟨p3, h3⟩ : ∃ p, p = wth x.tick 0 281474976710656 := ⟨_, rfl⟩
  obtain ⟨p4, h4⟩ : ∃ p, p = wth x.cost 0 1048576 := ⟨_, rfl⟩
  have HW : Hid (right x = (p1 && (p2 && (p3 && p4)))) := Lib.hid (by rw [h1, h2, h3, h4]; rfl)
  have C1 := Lib.hid (fun w => h1 ▸ within2_any x.id 1 281474976710656 w)
  have C2 := Lib.hid (fun w => h2 ▸ within_any x.cls 0 7 w)
  have C3 := Lib.hid (fun w => h3 ▸ within2_any x.tick 0 281474976710656 w)
  have C4 := Lib.hid (fun w => h4 ▸ within_any x.cost 0 1048576 w)
  clear h1 h2 h3 h4
  go_enter Try.func13, Try.ntmps13
  go_upto_region 1 with (fail)
  obtain ⟨W1, hW1⟩ : ∃ W, W = w.alloc (.cells X 24) := ⟨_, rfl⟩
  rw [← hW1]
  have B1 := Lib.hid (show Below w.heap.size w W1 by rw [hW1]; exact (Below.refl _ _).alloc (Nat.le_refl _) _)
  obtain ⟨g, hg⟩ : ∃ b, b = w.heap.size := ⟨_, rfl⟩
  rw [← hg]
  have hat : At W1 g 0 x.cells := by rw [hW1, HX.out, hg]; exact at_alloc 24
  have c0 : W1.cell? ⟨g, 0, none⟩ = some (.int .i64 x.id) := hat 0 (by rw [Item.cells_length]; decide)
  have c1 : W1.cell? ⟨g, 1, none⟩ = some (.int .i64 x.cls) := hat 1 (by rw [Item.cells_length]; decide)
  have c2 : W1.cell? ⟨g, 2, none⟩ = some (.int .i64 x.tick) := hat 2 (by rw [Item.cells_length]; decide)
  have c3 : W1.cell? ⟨g, 3, none⟩ = some (.int .i64 x.cost) := hat 3 (by rw [Item.cells_length]; decide)
  clear hat hW1 hg
  go_wp2_with fail
  refine (C1.out W1).mono ?_
  rintro r w2 ⟨rfl, rfl⟩
  cases p1 with
  | false =>
    go_wp2
    go_ret
    exact ⟨by rw [HW.out]; rfl, B1.out⟩
  | true =>
    go_wp2_with fail
    refine (C2.out W1).mono ?_
    rintro r w2 ⟨rfl, rfl⟩
    cases p2 with
    | false =>
      go_wp2
      go_ret
      exact ⟨by rw [HW.out]; rfl, B1.out⟩
    | true =>
      go_wp2_with fail
      refine (C3.out W1).mono ?_
      rintro r w2 ⟨rfl, rfl⟩
      cases p3 with
      | false =>
        go_wp2
        go_ret
        exact ⟨by rw [HW.out]; rfl, B1.out⟩
      | true =>
        go_wp2_with fail
        refine (C4.out W1).mono ?_
        rintro r w2 ⟨rfl, rfl⟩
        go_wp2
        go_ret
        exact ⟨by rw [HW.out]; rfl, B1.out⟩
end Go.Proofs.Ytclfbjbbdfejkaa.Ord
