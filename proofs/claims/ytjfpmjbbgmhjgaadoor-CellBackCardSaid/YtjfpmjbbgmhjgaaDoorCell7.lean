/- cell.Get -/
import Derived.Test.YtjfpmjbbgmhjgaaDoorCell6
import Derived.Stop.BytesEq
import Derived.Laws.Cover3
import Derived.Deep.MidRow
namespace Go.Proofs.YtjfpmjbbgmhjgaaDoor.Crc
open Go.RowKit CrcMath

/-- What stands in a sector behind its length. -/
def part (s : List Int) : List Int := (s.drop 1).take (s.getD 0 0).toNat
/-- Is it a sector of that number and place? -/
def gets (q p : Int) (s : List Int) : Bool := decide (s.length = 64 ∧ s.getD 0 0 ≤ 59 ∧ put q p (part s) = s)
def getv (q p : Int) (s : List Int) : List Int := if gets q p s then part s else []
/-- What stands behind that, ahead of the sum. -/
def rest_ (s : List Int) : List Int := (s.drop (1 + (s.getD 0 0).toNat)).take (59 - (s.getD 0 0).toNat)
theorem part_length {s : List Int} (h : s.length = 64) (h0 : s.getD 0 0 ≤ 59) : (part s).length = (s.getD 0 0).toNat := by
  unfold part; rw [List.length_take, List.length_drop, h]; omega
theorem zeros_eq {l : List Int} {n : Nat} (h : l.length = n) : List.replicate n 0 = l ↔ some1 l = false := by
  subst h
  unfold some1
  rw [List.any_eq_false]
  constructor
  · intro h x hx
    rw [← h] at hx
    rw [(List.mem_replicate.1 hx).2]
    decide
  · intro h
    exact (List.eq_replicate_iff.2 ⟨rfl, fun x hx => by simpa using h x hx⟩).symm
theorem body_part {s : List Int} (h : s.length = 64) (hb : Bytes s) (h0 : s.getD 0 0 ≤ 59) : body (part s) = s.take 60 ↔ some1 (rest_ s) = false := by
  have hs : ∃ x t, s = x :: t := by cases s with
    | nil => simp at h
    | cons x t => exact ⟨x, t, rfl⟩
  obtain ⟨x, t, rfl⟩ := hs
  have hx := hb x (List.mem_cons_self ..)
  have hpl := part_length h h0
  simp only [List.getD_cons_zero] at h0 hpl
  have ht : t.length = 63 := by simpa using h
  have e1 : (x :: t).take 60 = x :: t.take 59 := rfl
  have e2 : part (x :: t) = t.take x.toNat := rfl
  have e3 : rest_ (x :: t) = (t.drop x.toNat).take (59 - x.toNat) := by
    unfold rest_
    simp only [List.getD_cons_zero, Nat.add_comm 1, List.drop_succ_cons]
  have e4 : t.take 59 = t.take x.toNat ++ (t.drop x.toNat).take (59 - x.toNat) := by
    rw [← List.take_add]; congr 1; omega
  unfold body
  rw [hpl, e1, e4, e2, e3, show ((x.toNat : Nat) : Int) = x from by omega, List.cons.injEq, List.append_cancel_left_eq, zeros_eq (by rw [List.length_take, List.length_drop, ht]; omega)]
  exact ⟨fun h => h.2, fun h => ⟨rfl, h⟩⟩
/-- What Get asks. -/
theorem gets_eq {q p : Int} {s : List Int} (h : s.length = 64) (hb : Bytes s) (h0 : s.getD 0 0 ≤ 59) (hr : right q p = true) : gets q p s = (decide (le (more 0#32 (hd q p ++ s.take 60)) = s.drop 60) && !some1 (rest_ s)) := by
  have hpl := part_length h h0
  have hp59 : (part s).length ≤ 59 := by rw [hpl]; omega
  have hput : put q p (part s) = sector q p (part s) := by unfold put; rw [if_pos ⟨hr, hp59⟩]
  have h1 : gets q p s = decide (sector q p (part s) = s) := by
    unfold gets
    rw [hput]
    exact decide_eq_decide.2 ⟨fun h => h.2.2, fun h2 => ⟨h, h0, h2⟩⟩
  rw [h1]
  have hs : s = s.take 60 ++ s.drop 60 := (List.take_append_drop 60 s).symm
  have key : sector q p (part s) = s ↔ (le (more 0#32 (hd q p ++ s.take 60)) = s.drop 60 ∧ some1 (rest_ s) = false) := by
    rw [← body_part h hb h0]
    unfold sector
    constructor
    · intro e
      have e1 : body (part s) = s.take 60 := by
        have e3 := congrArg (List.take 60) e
        rw [List.take_left' (body_length hp59)] at e3
        exact e3
      refine ⟨?_, e1⟩
      rw [← e1]
      have e2 := congrArg (List.drop 60) e
      rw [List.drop_left' (body_length hp59)] at e2
      exact e2
    · rintro ⟨e1, e2⟩
      rw [e2, e1]
      exact hs.symm
  cases hs1 : some1 (rest_ s) with
  | true =>
    rw [Bool.not_true, Bool.and_false]
    refine decide_eq_false fun e => ?_
    have := (key.1 e).2
    rw [hs1] at this
    cases this
  | false =>
    rw [Bool.not_false, Bool.and_true]
    exact decide_eq_decide.2 ⟨fun e => (key.1 e).1, fun e => key.2 ⟨e, hs1⟩⟩
theorem ints_cells {l : List Int} (h : Bytes l) : l.map (Value.int .u8) = (l.map (fun n => UInt8.ofNat n.toNat)).map Extern.Stop.cell := by
  rw [List.map_map]
  refine List.map_congr_left fun x hx => ?_
  have := h x hx
  simp only [Function.comp, Extern.Stop.cell, UInt8.toNat_ofNat']
  congr 1
  show x = ((x.toNat % 2 ^ 8 : Nat) : Int)
  omega
theorem bytes_inj : ∀ {a b : List Int}, Bytes a → Bytes b → a.map (fun n => UInt8.ofNat n.toNat) = b.map (fun n => UInt8.ofNat n.toNat) → a = b
  | [], [], _, _, _ => rfl
  | [], _ :: _, _, _, h => by simp at h
  | _ :: _, [], _, _, h => by simp at h
  | x :: a, y :: b, ha, hb, h => by
    simp only [List.map_cons, List.cons.injEq] at h
    have hx := ha x (List.mem_cons_self ..)
    have hy := hb y (List.mem_cons_self ..)
    have h1 := congrArg UInt8.toNat h.1
    simp only [UInt8.toNat_ofNat'] at h1
    have e : x = y := by omega
    rw [e, bytes_inj (fun z hz => ha z (List.mem_cons_of_mem _ hz)) (fun z hz => hb z (List.mem_cons_of_mem _ hz)) h.2]
theorem eq_bytes {X Z : List Int} (w : World) (hX : X.length = 4) (hZ : Z.length = 4) (YX : Bytes X) (YZ : Bytes Z) :
    (Op.equalIn 10000 38 (.agg (X.map (Value.int .u8)).toArray) (.agg (Z.map (Value.int .u8)).toArray)).run Tryd.prog w = .ok (decide (X = Z)) w := by
  rw [ints_cells YX, ints_cells YZ, run_equalIn_bytes w 9998 38 5 4 Tryd.underlying38 Tryd.underlying5 (fun w => by kernel_rfl) _ _ (by simp [hX]) (by simp [hZ])]
  congr 1
  rw [Bool.eq_iff_iff, beq_iff_eq, decide_eq_true_eq]
  exact ⟨fun h => bytes_inj YX YZ h, fun h => by rw [h]⟩
theorem step_load_mid {P : Program} {o : Oper} {a : Act} {w : World} {post : Value → World → Prop} (ty : TypeId) (x : Operand) (ho : o.op = .load ty x) (b q : Nat) (hx : a.eval x = .pointer (some ⟨b, q, none⟩)) (cs : List Value) (d : TypeDesc) (hc : w.rangeAt b q cs)
    (hu : P.underlying ty = some d) (hd : d.isRow = true) (hi : (P.info? ty).map (·.size) = some cs.length) (hp : post (.agg cs.toArray) w) : Flow.step P o a w post := by
  refine Flow.step_value (v := .agg cs.toArray) ?_ hp
  unfold execOp
  simp only [ho, hx, Instr.loadAt, Instr.sureAddr, Sem.run_bind, Sem.run_pure, Result.andThen_ok, run_loadVar_mid w b q ty cs d hc hu hd hi]
def GetPost (w : World) (b : Bool) (l : List Int) (e : Ending) (w' : World) : Prop :=
  (∃ v m, e = .returned (.tuple #[v, .bool b]) ∧ Own w' .u8 5 w.heap.size v m l) ∧ Below w.heap.size w w'
theorem get_none' {q p : Int} {s : List Int} (h : gets q p s = false) {w w4 : World} (hb : Below w.heap.size w w4) : GetPost w (gets q p s) (getv q p s) (.returned (.tuple #[.slice none 0 0, .bool false])) w4 := by
  unfold getv
  rw [h]
  exact ⟨⟨_, 0, rfl, World.ownsRow_nil _ _ _ _⟩, hb⟩
theorem get_none {q p : Int} {s : List Int} (h : gets q p s = false) (w : World) : GetPost w (gets q p s) (getv q p s) (.returned (.tuple #[.slice none 0 0, .bool false])) w := get_none' h (Below.refl _ _)
def G9t (g _e : Nat) (q p : Int) (X Z _S : List Int) : Nat → Value → World → Prop
  | 0 => fun v _ => v = .int .i64 q
  | 1 => fun v _ => v = .int .i64 p
  | 2 => fun v _ => v = .agg (X.map (Value.int .u8)).toArray
  | 3 => fun v _ => v = .slice (some ⟨g, 60, none⟩) 4 4
  | 4 => fun v _ => v = .pointer (some ⟨g, 60, none⟩)
  | 5 => fun v _ => v = .agg (Z.map (Value.int .u8)).toArray
  | 6 => fun v _ => v = .bool true
  | 7 => fun v _ => v = .bool true
  | 8 => fun v _ => v = undef
  | 9 => fun v _ => v = undef
  | 10 => fun v _ => v = undef
  | 11 => fun v _ => v = undef
  | 12 => fun v _ => v = undef
  | 13 => fun v _ => v = .bool true
  | _ => fun _ _ => True
theorem G9t_stable (g e : Nat) (q p : Int) (X Z S : List Int) : ∀ i v w w', G9t g e q p X Z S i v w → Below w.heap.size w w' → G9t g e q p X Z S i v w' := by
  intro i v w w' h hb
  match i, h with
  | 0, h => exact h
  | 1, h => exact h
  | 2, h => exact h
  | 3, h => exact h
  | 4, h => exact h
  | 5, h => exact h
  | 6, h => exact h
  | 7, h => exact h
  | 8, h => exact h
  | 9, h => exact h
  | 10, h => exact h
  | 11, h => exact h
  | 12, h => exact h
  | 13, h => exact h
  | _ + 14, _ => exact trivial
def G9f (g e : Nat) (q p : Int) (X Z S : List Int) : Nat → Value → World → Prop
  | 0 => fun v _ => v = .int .i64 q
  | 1 => fun v _ => v = .int .i64 p
  | 2 => fun v _ => v = .agg (X.map (Value.int .u8)).toArray
  | 3 => fun v _ => v = .slice (some ⟨g, 60, none⟩) 4 4
  | 4 => fun v _ => v = .pointer (some ⟨g, 60, none⟩)
  | 5 => fun v _ => v = .agg (Z.map (Value.int .u8)).toArray
  | 6 => fun v _ => v = .bool false
  | 7 => fun v _ => v = .bool false
  | 8 => fun v _ => v = .int .i64 (e : Int)
  | 9 => fun v _ => ∃ A, v = .slice (some A) (60 - e) (64 - e) ∧ (e < 60 → A = ⟨g, e, none⟩)
  | 10 => fun v _ => TrimL (60 - e) (some1 S) (.returned v)
  | 11 => fun v _ => ∃ m : Nat, v = .int .i64 m ∧ (0 < m ↔ some1 S = true)
  | 12 => fun v _ => v = .bool (some1 S)
  | 13 => fun v _ => v = .bool (some1 S)
  | _ => fun _ _ => True
theorem G9f_stable (g e : Nat) (q p : Int) (X Z S : List Int) : ∀ i v w w', G9f g e q p X Z S i v w → Below w.heap.size w w' → G9f g e q p X Z S i v w' := by
  intro i v w w' h hb
  match i, h with
  | 0, h => exact h
  | 1, h => exact h
  | 2, h => exact h
  | 3, h => exact h
  | 4, h => exact h
  | 5, h => exact h
  | 6, h => exact h
  | 7, h => exact h
  | 8, h => exact h
  | 9, h => exact h
  | 10, h => exact h
  | 11, h => exact h
  | 12, h => exact h
  | 13, h => exact h
  | _ + 14, _ => exact trivial
set_option maxHeartbeats 8000000 in
set_option maxRecDepth 100000 in
theorem get_any (A : Option Addr) (n c : Nat) (l : List Int) (q p : Int) (w : World) (hr : Rd w .u8 A n c l) (hb : Bytes l) :
    Calls Tryd.prog 9 #[.slice A n c, .int .i64 q, .int .i64 p] w (GetPost w (gets q p l) (getv q p l)) := by
  have hcap := hr.small
  have hle := hr.le
  have R := Lib.hid hr
  have Y := Lib.hid hb
  have L := Lib.hid hr.len
  clear hr hb
  obtain ⟨rb, hrb⟩ : ∃ b, b = right q p := ⟨_, rfl⟩
  have hra := right_any q p
  rw [← hrb] at hra
  have RA := Lib.hid hra
  have RB := Lib.hid hrb
  clear hra hrb
  by_cases h64 : n = 64
  · subst h64
    cases rb with
    | false =>
      go_enter Tryd.func9, Tryd.ntmps9
      go_wp2_with fail
      refine (RA.out _).mono ?_
      rintro e w1 ⟨rfl, rfl⟩
      go_wp2
      refine bodyPost_ret (results_tmp2 rfl _ _ _) rfl ?_
      refine get_none ?_ w
      unfold gets put
      rw [← RB.out]
      refine decide_eq_false fun h => ?_
      have := h.2.2
      rw [if_neg (by simp)] at this
      have := congrArg List.length this
      rw [h.1] at this
      simp at this
    | true =>
      obtain ⟨ad, rfl, hc0⟩ := R.out.cell 0 (by decide)
      rw [addr_add0] at hc0
      obtain ⟨y, hy⟩ : ∃ y, y = l.getD 0 0 := ⟨_, rfl⟩
      rw [← hy] at hc0
      have HY := Lib.hid hy
      have hyb : 0 ≤ y ∧ y < 256 := by
        have hl := L.out
        rw [hy, List.getD_eq_getElem?_getD, List.getElem?_eq_getElem (by omega)]
        exact Y.out _ (List.getElem_mem _)
      clear hy
      by_cases h59 : 59 < y
      · have hdd : decide (59 < y) = true := decide_eq_true h59
        go_enter Tryd.func9, Tryd.ntmps9
        go_wp2_with fail
        refine (RA.out _).mono ?_
        rintro e w1 ⟨rfl, rfl⟩
        go_wp2
        refine bodyPost_ret (results_tmp2 rfl _ _ _) rfl ?_
        refine get_none ?_ w
        unfold gets
        refine decide_eq_false fun h => ?_
        have := h.2.1
        rw [← HY.out] at this
        omega
      · have hdd : decide (59 < y) = false := decide_eq_false h59
        obtain ⟨u, rfl⟩ := Int.eq_ofNat_of_zero_le hyb.1
        go_enter Tryd.func9, Tryd.ntmps9
        go_wp2_with fail
        refine (RA.out _).mono ?_
        rintro e w1 ⟨rfl, rfl⟩
        have HA := run_arrayAt (P := Tryd.prog) w 37 5 64 (some ad) 64 c Tryd.underlying37 (Nat.le_refl _)
        obtain ⟨b, o, rfl, hcell⟩ := R.out.spot _ rfl (by decide)
        obtain ⟨C, hC⟩ : ∃ C, C = l.map (Value.int .u8) := ⟨_, rfl⟩
        have hrange : w.rangeAt b o C := by
          intro j v hv
          have := R.out.cells j v (by rw [← hC]; exact hv)
          rw [add_off] at this
          exact this
        have hCl : C.length = 64 := by rw [hC, List.length_map, L.out]
        obtain ⟨E, hE⟩ : ∃ E, E = C.toArray := ⟨_, rfl⟩
        have hEi : (Tryd.prog.info? 37).map (·.size) = some E.size := by rw [hE, List.size_toArray, hCl]; kernel_rfl
        have hEa : E.all (·.oneCell') = true := by rw [hE, hC, List.all_toArray, List.all_eq_true]; exact ints_one _ _
        have hE64 : E.size = 64 := by rw [hE, List.size_toArray, hCl]
        have hCi : (Tryd.prog.info? 37).map (·.size) = some C.length := by rw [hCl]; kernel_rfl
        have HC := Lib.hid hC
        have HR := Lib.hid hrange
        have HE := Lib.hid hE
        have HEi := Lib.hid hEi
        have HEa := Lib.hid hEa
        have HE64 := Lib.hid hE64
        have HCi := Lib.hid hCi
        clear hcell hrange hCl hE hEi hEa hE64 hCi hC
        go_wp2_with (first | (refine wpList_load_mid rfl 37 (.tmp 26) rfl b o rfl C _ HR.out Tryd.underlying37 rfl HCi.out ?_; rw [← HE.out]) | (refine wpList_store_row rfl 37 (.tmp 8) (.tmp 27) rfl w.heap.size E rfl rfl 37 _ (heap_alloc_new _ _) HEi.out (by rw [HE64.out]; rfl) HEa.out ?_; rw [World.setRow_alloc_new]; obtain ⟨W, hW⟩ : ∃ W, W = w.alloc (.cells E 37) := ⟨_, rfl⟩; rw [← hW]; have HW := Lib.hid hW; have hc1 : W.cell? ⟨w.heap.size, 0, none⟩ = some (.int .u8 (u : Int)) := (by rw [hW, World.cell?_alloc_at _ _ _ _ rfl, HE.out, HC.out, List.getElem?_toArray, List.getElem?_map, List.getElem?_eq_getElem (by rw [L.out]; decide), HY.out, List.getD_eq_getElem?_getD, List.getElem?_eq_getElem (by rw [L.out]; decide)]; rfl); clear hW))
        obtain ⟨g, hg0⟩ : ∃ g, g = w.heap.size := ⟨_, rfl⟩
        rw [← hg0] at hc1
        have hBW : Below w.heap.size w W := by rw [HW.out]; exact (Below.refl _ _).alloc (Nat.le_refl _) _
        have hWg : W.heap[g]? = some (.cells (l.map (Value.int .u8)).toArray 37 (0, 0)) := by rw [HW.out, HE.out, HC.out, hg0]; exact heap_alloc_new _ _
        have hll := L.out
        have hR6 : Rd W .u8 (some ⟨g, 0, none⟩) 60 64 (l.take 60) := rd_of_heap hWg 60 64 (by rw [hll]; decide) (by decide) (by decide)
        have hcel : ∀ j, j < 64 → W.cell? ⟨g, j, none⟩ = some (.int .u8 (l.getD j 0)) := by
          intro j hj
          have hj2 : j < l.length := by omega
          simp only [World.cell?, hWg, List.getElem?_toArray, List.getElem?_map, List.getElem?_eq_getElem hj2, List.getD_eq_getElem?_getD]
          rfl
        obtain ⟨X, hX⟩ : ∃ X, X = le (more 0#32 (hd q p ++ l.take 60)) := ⟨_, rfl⟩
        obtain ⟨L6, hL6⟩ : ∃ x, x = l.take 60 := ⟨_, rfl⟩
        obtain ⟨Z, hZ⟩ : ∃ x, x = l.drop 60 := ⟨_, rfl⟩
        obtain ⟨S, hS⟩ : ∃ x, x = rest_ l := ⟨_, rfl⟩
        obtain ⟨e, he⟩ : ∃ e : Nat, e = 1 + u := ⟨_, rfl⟩
        have hy0 : l.getD 0 0 = (u : Int) := HY.out.symm
        have hgt := gets_eq (q := q) (p := p) hll Y.out (by rw [hy0]; omega) RB.out.symm
        have hgv : getv q p l = if gets q p l then part l else [] := rfl
        rw [← hX, ← hZ, ← hS] at hgt
        have X4 := Lib.hid (show X.length = 4 by rw [hX]; rfl)
        have Z4 := Lib.hid (show Z.length = 4 by rw [hZ, List.length_drop, hll])
        have YX := Lib.hid (show Bytes X by rw [hX]; exact le_bytes _)
        have YZ := Lib.hid (show Bytes Z by rw [hZ]; exact fun x hx => Y.out x (List.mem_of_mem_drop hx))
        have Y6 := Lib.hid (show Bytes L6 by rw [hL6]; exact take_bytes Y.out 60)
        have R6 : Hid (Rd W .u8 (some ⟨g, 0, none⟩) 60 64 L6) := by rw [hL6]; exact Lib.hid hR6
        have HX : Hid (X = le (more 0#32 (hd q p ++ L6))) := by rw [hL6]; exact Lib.hid hX
        have he60 : e ≤ 60 := by omega
        have he1 : 1 ≤ e := by omega
        have RZ : Hid (∀ w', Below W.heap.size W w' → w'.rangeAt g 60 (Z.map (Value.int .u8))) := Lib.hid (by
          intro w' hb j v hv
          rw [hZ, List.map_drop] at hv
          have hj : 60 + j < 64 := by
            rcases Nat.lt_or_ge (60 + j) 64 with h | h
            · exact h
            · rw [List.getElem?_eq_none (by simp [hll]; omega)] at hv; cases hv
          rw [hb.cell (World.block_lt_of_cell? W _ (hcel _ hj)), hcel _ hj, ← hv, List.getElem?_drop, List.getElem?_map, List.getD_eq_getElem?_getD, List.getElem?_eq_getElem (by omega)]
          rfl)
        have RS : Hid (∀ A, (e < 60 → A = ⟨g, e, none⟩) → Rd W .u8 (some A) (60 - e) (64 - e) S) := Lib.hid (by
          intro A hA
          have hSl : S.length = 60 - e := by rw [hS, rest_, hy0, List.length_take, List.length_drop, hll]; omega
          refine ⟨hSl, by omega, by omega, (fun h => by cases h), fun ad e2 h0 => ?_⟩
          cases e2
          refine ⟨g, e, hA (by omega), fun j hj => ?_⟩
          rw [hcel _ (by omega), hS, rest_, hy0, List.getD_eq_getElem?_getD, List.getD_eq_getElem?_getD, List.getElem?_take, if_pos (by omega), List.getElem?_drop, show 1 + ((u : Int)).toNat + j = e + j by omega])
        have RP : Hid (∀ A, (1 < e → A = ⟨g, 1, none⟩) → Rd W .u8 (some A) (e - 1) (e - 1) (part l)) := Lib.hid (by
          intro A hA
          have hSl : (part l).length = e - 1 := by rw [part, hy0, List.length_take, List.length_drop, hll]; omega
          refine ⟨hSl, by omega, by omega, (fun h => by cases h), fun ad e2 h0 => ?_⟩
          cases e2
          refine ⟨g, 1, hA (by omega), fun j hj => ?_⟩
          rw [hcel _ (by omega), part, hy0, List.getD_eq_getElem?_getD, List.getD_eq_getElem?_getD, List.getElem?_take, if_pos (by omega), List.getElem?_drop])
        have BW := Lib.hid hBW
        have HGT := Lib.hid hgt
        have HGV := Lib.hid hgv
        rw [show (1 : Int) + (u : Int) = (e : Int) from by omega, ← hg0]
        have HG0 := Lib.hid hg0
        clear hg0
        clear hX hL6 hZ hS hR6 hcel hWg hBW hgt hgv hc0 hc1 hy0 he HA HR
        by_cases hxz : X = Z
        · have DD := Lib.hid (show decide (X = Z) = true from decide_eq_true hxz)
          have hG : gets q p l = !some1 S := by rw [HGT.out, decide_eq_true hxz, Bool.true_and]
          have HGG := Lib.hid hG
          clear hxz hG
          refine Flow.wp_region_flow (by kernel_rfl) (G9f g e q p X Z S) (by kernel_rfl) (G9f_stable g e q p X Z S) ?loc ?fin
          case loc =>
            intro i o ho a w hw hk
            match i, ho with
            | 0, ho =>
              have ho2 := Option.some.inj ho; clear ho; subst ho2
              have r1 : a.tmps.getD 1 undef = .int .i64 q := (hk 1 (Flow.mem_looks (by kernel_rfl))).before (by kernel_rfl)
              rw [if_pos (Flow.wanted_free rfl _)]
              refine Flow.step_value (v := .int .i64 q) ?_ ⟨Below.refl _ _, rfl⟩
              simp [execOp, Act.eval, r1, go_sem]
            | 1, ho =>
              have ho2 := Option.some.inj ho; clear ho; subst ho2
              have r2 : a.tmps.getD 2 undef = .int .i64 p := (hk 2 (Flow.mem_looks (by kernel_rfl))).before (by kernel_rfl)
              rw [if_pos (Flow.wanted_free rfl _)]
              refine Flow.step_value (v := .int .i64 p) ?_ ⟨Below.refl _ _, rfl⟩
              simp [execOp, Act.eval, r2, go_sem]
            | 2, ho =>
              have ho2 := Option.some.inj ho; clear ho; subst ho2
              have r8 : a.tmps.getD 8 undef = .pointer (some ⟨g, 0, none⟩) := (hk 8 (Flow.mem_looks (by kernel_rfl))).before (by kernel_rfl)
              have r32 : a.tmps.getD 32 undef = .int .i64 q := (hk 32 (Flow.mem_looks (by kernel_rfl))).by_ 0 (by kernel_rfl) (by decide)
              have r33 : a.tmps.getD 33 undef = .int .i64 p := (hk 33 (Flow.mem_looks (by kernel_rfl))).by_ 1 (by kernel_rfl) (by decide)
              rw [if_pos (Flow.wanted_free rfl _)]
              refine Flow.step_call (f := 17) (args := #[.pointer (some ⟨g, 0, none⟩), .int .i64 q, .int .i64 p]) (by simp [execOp, Act.eval, r8, r32, r33, go_sem]) ?_
              rw [HX.out]
              refine (sum_any g q p L6 _ (R6.out.below hw) Y6.out).mono ?_
              rintro e w1 ⟨rfl, hb1⟩
              exact ⟨_, rfl, hb1, rfl⟩
            | 3, ho =>
              have ho2 := Option.some.inj ho; clear ho; subst ho2
              have r8 : a.tmps.getD 8 undef = .pointer (some ⟨g, 0, none⟩) := (hk 8 (Flow.mem_looks (by kernel_rfl))).before (by kernel_rfl)
              rw [if_pos (Flow.wanted_free rfl _)]
              refine Flow.step_value (v := .slice (some ⟨g, 60, none⟩) 4 4) ?_ ⟨Below.refl _ _, rfl⟩
              simp [execOp, Act.eval, r8, go_sem]
            | 4, ho =>
              have ho2 := Option.some.inj ho; clear ho; subst ho2
              have r35 : a.tmps.getD 35 undef = .slice (some ⟨g, 60, none⟩) 4 4 := (hk 35 (Flow.mem_looks (by kernel_rfl))).by_ 3 (by kernel_rfl) (by decide)
              rw [if_pos (Flow.wanted_free rfl _)]
              refine Flow.step_value (v := .pointer (some ⟨g, 60, none⟩)) ?_ ⟨Below.refl _ _, rfl⟩
              have hA := run_arrayAt (P := Tryd.prog) w 38 5 4 (some ⟨g, 60, none⟩) 4 4 Tryd.underlying38 (by decide)
              simp [execOp, Act.eval, r35, go_sem, hA]
            | 5, ho =>
              have ho2 := Option.some.inj ho; clear ho; subst ho2
              have r36 : a.tmps.getD 36 undef = .pointer (some ⟨g, 60, none⟩) := (hk 36 (Flow.mem_looks (by kernel_rfl))).by_ 4 (by kernel_rfl) (by decide)
              rw [if_pos (Flow.wanted_free rfl _)]
              refine step_load_mid 38 (.tmp 36) rfl g 60 r36 (Z.map (Value.int .u8)) _ (RZ.out w hw) Tryd.underlying38 rfl (by rw [List.length_map, Z4.out]; kernel_rfl) ⟨Below.refl _ _, rfl⟩
            | 6, ho =>
              have ho2 := Option.some.inj ho; clear ho; subst ho2
              have r34 : a.tmps.getD 34 undef = .agg (X.map (Value.int .u8)).toArray := (hk 34 (Flow.mem_looks (by kernel_rfl))).by_ 2 (by kernel_rfl) (by decide)
              have r37 : a.tmps.getD 37 undef = .agg (Z.map (Value.int .u8)).toArray := (hk 37 (Flow.mem_looks (by kernel_rfl))).by_ 5 (by kernel_rfl) (by decide)
              rw [if_pos (Flow.wanted_free rfl _)]
              refine Flow.step_value (v := .bool false) ?_ ⟨Below.refl _ _, rfl⟩
              have hN := eq_bytes w X4.out Z4.out YX.out YZ.out
              rw [DD.out] at hN
              have hEq := run_eqGuard_agg (P := Tryd.prog) w .neq 38 (.tmp 34) (.tmp 37) (X.map (Value.int .u8)).toArray (Z.map (Value.int .u8)).toArray (by kernel_rfl)
              simp [execOp, Act.eval, r34, r37, go_sem, hN, hEq]
            | 7, ho =>
              have ho2 := Option.some.inj ho; clear ho; subst ho2
              have r38 : a.tmps.getD 38 undef = .bool false := (hk 38 (Flow.mem_looks (by kernel_rfl))).by_ 6 (by kernel_rfl) (by decide)
              rw [if_pos (Flow.wanted_free rfl _)]
              refine Flow.step_value (v := .bool false) ?_ ⟨Below.refl _ _, rfl⟩
              simp [execOp, Act.eval, r38, go_sem]
            | 8, ho =>
              have ho2 := Option.some.inj ho; clear ho; subst ho2
              have r9 : a.tmps.getD 9 undef = .int .i64 (e : Int) := (hk 9 (Flow.mem_looks (by kernel_rfl))).before (by kernel_rfl)
              have r39 : a.tmps.getD 39 undef = .bool false := (hk 39 (Flow.mem_looks (by kernel_rfl))).by_ 7 (by kernel_rfl) (by decide)
              rw [if_pos (Flow.wanted_by (t := 39) rfl (by kernel_rfl) r39)]
              refine Flow.step_value (v := .int .i64 (e : Int)) ?_ ⟨Below.refl _ _, rfl⟩
              simp [execOp, Act.eval, r9, go_sem]
            | 9, ho =>
              have ho2 := Option.some.inj ho; clear ho; subst ho2
              have r8 : a.tmps.getD 8 undef = .pointer (some ⟨g, 0, none⟩) := (hk 8 (Flow.mem_looks (by kernel_rfl))).before (by kernel_rfl)
              have r40 : a.tmps.getD 40 undef = .int .i64 (e : Int) := (hk 40 (Flow.mem_looks (by kernel_rfl))).by_ 8 (by kernel_rfl) (by decide)
              have r39 : a.tmps.getD 39 undef = .bool false := (hk 39 (Flow.mem_looks (by kernel_rfl))).by_ 7 (by kernel_rfl) (by decide)
              rw [if_pos (Flow.wanted_by (t := 39) rfl (by kernel_rfl) r39)]
              obtain ⟨A, hA, hA2⟩ : ∃ A, slicedAt ⟨g, 0, none⟩ e 60 64 1 = .slice (some A) (60 - e) (64 - e) ∧ (e < 60 → A = ⟨g, e, none⟩) := ⟨_, rfl, fun h => by rw [if_neg (by omega), add_off]; congr 1; omega⟩
              refine Flow.step_value (v := .slice (some A) (60 - e) (64 - e)) ?_ ⟨Below.refl _ _, A, rfl, hA2⟩
              rw [← hA]
              have e60 : (e : Int) ≤ 60 := by omega
              simp [execOp, Act.eval, r8, r40, go_sem, e60]
            | 10, ho =>
              have ho2 := Option.some.inj ho; clear ho; subst ho2
              have r41 := (hk 41 (Flow.mem_looks (by kernel_rfl))).by_ 9 (by kernel_rfl) (by decide)
              have r39 : a.tmps.getD 39 undef = .bool false := (hk 39 (Flow.mem_looks (by kernel_rfl))).by_ 7 (by kernel_rfl) (by decide)
              rw [if_pos (Flow.wanted_by (t := 39) rfl (by kernel_rfl) r39)]
              obtain ⟨A, e1, hA2⟩ := r41
              refine Flow.step_call (f := 18) (args := #[.slice (some A) (60 - e) (64 - e), .string ⟨#[0]⟩]) (by simp [execOp, Act.eval, e1, go_sem]) ?_
              refine (trim_any (some A) (60 - e) (64 - e) S _ ((RS.out A hA2).below hw)).mono ?_
              rintro e w1 ⟨h4, hb1⟩
              obtain ⟨A2, m2, c2, rfl, h5, h6⟩ := h4
              exact ⟨_, rfl, hb1, A2, m2, c2, rfl, h5, h6⟩
            | 11, ho =>
              have ho2 := Option.some.inj ho; clear ho; subst ho2
              have r42 := (hk 42 (Flow.mem_looks (by kernel_rfl))).by_ 10 (by kernel_rfl) (by decide)
              have r39 : a.tmps.getD 39 undef = .bool false := (hk 39 (Flow.mem_looks (by kernel_rfl))).by_ 7 (by kernel_rfl) (by decide)
              rw [if_pos (Flow.wanted_by (t := 39) rfl (by kernel_rfl) r39)]
              obtain ⟨A2, m2, c2, e1, h5, h6⟩ := r42
              have e2 := Ending.returned.inj e1
              refine Flow.step_value (v := .int .i64 (m2 : Int)) ?_ ⟨Below.refl _ _, m2, rfl, h5⟩
              simp [execOp, Act.eval, e2, go_sem]
            | 12, ho =>
              have ho2 := Option.some.inj ho; clear ho; subst ho2
              have r43 := (hk 43 (Flow.mem_looks (by kernel_rfl))).by_ 11 (by kernel_rfl) (by decide)
              have r39 : a.tmps.getD 39 undef = .bool false := (hk 39 (Flow.mem_looks (by kernel_rfl))).by_ 7 (by kernel_rfl) (by decide)
              rw [if_pos (Flow.wanted_by (t := 39) rfl (by kernel_rfl) r39)]
              obtain ⟨m, e1, h5⟩ := r43
              refine Flow.step_value (v := .bool (some1 S)) ?_ ⟨Below.refl _ _, rfl⟩
              have h6 : decide (0 < m) = some1 S := by
                cases hs : some1 S with
                | true => exact decide_eq_true (h5.2 hs)
                | false => exact decide_eq_false (fun h => by rw [hs] at h5; exact absurd (h5.1 h) (by decide))
              simp [execOp, Act.eval, e1, go_sem, h6]
            | 13, ho =>
              have ho2 := Option.some.inj ho; clear ho; subst ho2
              have r39 : a.tmps.getD 39 undef = .bool false := (hk 39 (Flow.mem_looks (by kernel_rfl))).by_ 7 (by kernel_rfl) (by decide)
              have r44 : a.tmps.getD 44 undef = .bool (some1 S) := (hk 44 (Flow.mem_looks (by kernel_rfl))).by_ 12 (by kernel_rfl) (by decide)
              rw [if_pos (Flow.wanted_free rfl _)]
              refine Flow.step_value (v := .bool (some1 S)) ?_ ⟨Below.refl _ _, rfl⟩
              simp [execOp, Act.eval, r39, r44, go_sem]
            | _ + 14, ho => exact absurd ho (by simp)
          case fin =>
            intro a w4 hw4 hd4 hs4 hg hold
            have ea := Flow.act_eq (a := a) [a.tmps.getD 0 undef, a.tmps.getD 1 undef, a.tmps.getD 2 undef, a.tmps.getD 3 undef, a.tmps.getD 4 undef, a.tmps.getD 5 undef, a.tmps.getD 6 undef, a.tmps.getD 7 undef, .pointer (some ⟨g, 0, none⟩), .int .i64 (e : Int), a.tmps.getD 10 undef, a.tmps.getD 11 undef, a.tmps.getD 12 undef, a.tmps.getD 13 undef, a.tmps.getD 14 undef, a.tmps.getD 15 undef, a.tmps.getD 16 undef, a.tmps.getD 17 undef, a.tmps.getD 18 undef, a.tmps.getD 19 undef, a.tmps.getD 20 undef, a.tmps.getD 21 undef, a.tmps.getD 22 undef, a.tmps.getD 23 undef, a.tmps.getD 24 undef, a.tmps.getD 25 undef, a.tmps.getD 26 undef, a.tmps.getD 27 undef, a.tmps.getD 28 undef, a.tmps.getD 29 undef, a.tmps.getD 30 undef, a.tmps.getD 31 undef, a.tmps.getD 32 undef, a.tmps.getD 33 undef, a.tmps.getD 34 undef, a.tmps.getD 35 undef, a.tmps.getD 36 undef, a.tmps.getD 37 undef, a.tmps.getD 38 undef, a.tmps.getD 39 undef, a.tmps.getD 40 undef, a.tmps.getD 41 undef, a.tmps.getD 42 undef, a.tmps.getD 43 undef, a.tmps.getD 44 undef, .bool (some1 S), a.tmps.getD 46 undef, a.tmps.getD 47 undef, a.tmps.getD 48 undef, a.tmps.getD 49 undef] hs4 hd4 (by
              intro t ht
              match t, ht with
              | 0, _ => exact rfl
              | 1, _ => exact rfl
              | 2, _ => exact rfl
              | 3, _ => exact rfl
              | 4, _ => exact rfl
              | 5, _ => exact rfl
              | 6, _ => exact rfl
              | 7, _ => exact rfl
              | 8, _ => exact Flow.old_at hold 8 (by kernel_rfl)
              | 9, _ => exact Flow.old_at hold 9 (by kernel_rfl)
              | 10, _ => exact rfl
              | 11, _ => exact rfl
              | 12, _ => exact rfl
              | 13, _ => exact rfl
              | 14, _ => exact rfl
              | 15, _ => exact rfl
              | 16, _ => exact rfl
              | 17, _ => exact rfl
              | 18, _ => exact rfl
              | 19, _ => exact rfl
              | 20, _ => exact rfl
              | 21, _ => exact rfl
              | 22, _ => exact rfl
              | 23, _ => exact rfl
              | 24, _ => exact rfl
              | 25, _ => exact rfl
              | 26, _ => exact rfl
              | 27, _ => exact rfl
              | 28, _ => exact rfl
              | 29, _ => exact rfl
              | 30, _ => exact rfl
              | 31, _ => exact rfl
              | 32, _ => exact rfl
              | 33, _ => exact rfl
              | 34, _ => exact rfl
              | 35, _ => exact rfl
              | 36, _ => exact rfl
              | 37, _ => exact rfl
              | 38, _ => exact rfl
              | 39, _ => exact rfl
              | 40, _ => exact rfl
              | 41, _ => exact rfl
              | 42, _ => exact rfl
              | 43, _ => exact rfl
              | 44, _ => exact rfl
              | 45, _ => exact hg 13 _ 45 rfl rfl
              | 46, _ => exact rfl
              | 47, _ => exact rfl
              | 48, _ => exact rfl
              | 49, _ => exact rfl
              | t + 50, ht => exact absurd ht (by simp))
            rw [ea]
            generalize a.tmps.getD 0 undef = z0
            generalize a.tmps.getD 1 undef = z1
            generalize a.tmps.getD 2 undef = z2
            generalize a.tmps.getD 3 undef = z3
            generalize a.tmps.getD 4 undef = z4
            generalize a.tmps.getD 5 undef = z5
            generalize a.tmps.getD 6 undef = z6
            generalize a.tmps.getD 7 undef = z7
            generalize a.tmps.getD 10 undef = z10
            generalize a.tmps.getD 11 undef = z11
            generalize a.tmps.getD 12 undef = z12
            generalize a.tmps.getD 13 undef = z13
            generalize a.tmps.getD 14 undef = z14
            generalize a.tmps.getD 15 undef = z15
            generalize a.tmps.getD 16 undef = z16
            generalize a.tmps.getD 17 undef = z17
            generalize a.tmps.getD 18 undef = z18
            generalize a.tmps.getD 19 undef = z19
            generalize a.tmps.getD 20 undef = z20
            generalize a.tmps.getD 21 undef = z21
            generalize a.tmps.getD 22 undef = z22
            generalize a.tmps.getD 23 undef = z23
            generalize a.tmps.getD 24 undef = z24
            generalize a.tmps.getD 25 undef = z25
            generalize a.tmps.getD 26 undef = z26
            generalize a.tmps.getD 27 undef = z27
            generalize a.tmps.getD 28 undef = z28
            generalize a.tmps.getD 29 undef = z29
            generalize a.tmps.getD 30 undef = z30
            generalize a.tmps.getD 31 undef = z31
            generalize a.tmps.getD 32 undef = z32
            generalize a.tmps.getD 33 undef = z33
            generalize a.tmps.getD 34 undef = z34
            generalize a.tmps.getD 35 undef = z35
            generalize a.tmps.getD 36 undef = z36
            generalize a.tmps.getD 37 undef = z37
            generalize a.tmps.getD 38 undef = z38
            generalize a.tmps.getD 39 undef = z39
            generalize a.tmps.getD 40 undef = z40
            generalize a.tmps.getD 41 undef = z41
            generalize a.tmps.getD 42 undef = z42
            generalize a.tmps.getD 43 undef = z43
            generalize a.tmps.getD 44 undef = z44
            generalize a.tmps.getD 46 undef = z46
            generalize a.tmps.getD 47 undef = z47
            generalize a.tmps.getD 48 undef = z48
            generalize a.tmps.getD 49 undef = z49
            clear ea
            have X4' := Lib.hid (below_trans BW.out hw4 BW.out.size)
            have W4 := Lib.hid hw4
            clear hd4 hs4 hg hold hw4
            refine (‹∀ (a : Act) (w : World), Code.wp _ _ _ a w → _›) _ _ ?_
            obtain ⟨sb, hsb⟩ : ∃ b, b = some1 S := ⟨_, rfl⟩
            rw [← hsb] at HGG ⊢
            clear hsb
            cases sb with
            | true =>
              go_wp2
              refine bodyPost_ret (results_tmp2 rfl _ _ _) rfl ?_
              exact get_none' HGG.out X4'.out
            | false =>
              obtain ⟨A, hA, hA2⟩ : ∃ A, slicedAt ⟨g, 0, none⟩ 1 e e 1 = .slice (some A) (e - 1) (e - 1) ∧ (1 < e → A = ⟨g, 1, none⟩) := ⟨_, rfl, fun h => by rw [if_neg (by omega), add_off]⟩
              have hcut : ∀ w', (Instr.sliceAt 37 (.pointer (some ⟨g, 0, none⟩)) (some (.int .i64 1)) (some (.int .i64 e)) (some (.int .i64 e))).run Tryd.prog w' = .ok (.slice (some A) (e - 1) (e - 1)) w' := by
                intro w'
                rw [← hA]
                have e1 : (1 : Int) ≤ e := by omega
                have e2 : (e : Int) ≤ 64 := by omega
                simp [go_sem, e1, e2]
              have hc4 := hcut w4
              have R4 := Lib.hid ((RP.out A hA2).below W4.out)
              have HGV2 := Lib.hid (show getv q p l = part l by rw [HGV.out, HGG.out]; rfl)
              clear hcut hA hA2
              go_wp2_with fail
              refine (clone_any (some A) (e - 1) (e - 1) (part l) _ R4.out (by omega)).mono ?_
              rintro e' w6 ⟨⟨v6, rfl, ho6⟩, hb6⟩
              have O6 := Lib.hid (Own.lower ho6 X4'.out.size)
              have X6 := Lib.hid (below_trans X4'.out hb6 X4'.out.size)
              clear ho6 hb6
              go_wp2
              refine bodyPost_ret (results_tmp2 rfl _ _ _) rfl ?_
              refine ⟨⟨v6, e - 1, ?_, ?_⟩, X6.out⟩
              · rw [HGG.out]; rfl
              · rw [HGV2.out]; exact O6.out
        · have DD := Lib.hid (show decide (X = Z) = false from decide_eq_false hxz)
          have hG : gets q p l = false := by rw [HGT.out, decide_eq_false hxz, Bool.false_and]
          have HGG := Lib.hid hG
          clear hxz hG
          refine Flow.wp_region_flow (by kernel_rfl) (G9t g e q p X Z S) (by kernel_rfl) (G9t_stable g e q p X Z S) ?loc ?fin
          case loc =>
            intro i o ho a w hw hk
            match i, ho with
            | 0, ho =>
              have ho2 := Option.some.inj ho; clear ho; subst ho2
              have r1 : a.tmps.getD 1 undef = .int .i64 q := (hk 1 (Flow.mem_looks (by kernel_rfl))).before (by kernel_rfl)
              rw [if_pos (Flow.wanted_free rfl _)]
              refine Flow.step_value (v := .int .i64 q) ?_ ⟨Below.refl _ _, rfl⟩
              simp [execOp, Act.eval, r1, go_sem]
            | 1, ho =>
              have ho2 := Option.some.inj ho; clear ho; subst ho2
              have r2 : a.tmps.getD 2 undef = .int .i64 p := (hk 2 (Flow.mem_looks (by kernel_rfl))).before (by kernel_rfl)
              rw [if_pos (Flow.wanted_free rfl _)]
              refine Flow.step_value (v := .int .i64 p) ?_ ⟨Below.refl _ _, rfl⟩
              simp [execOp, Act.eval, r2, go_sem]
            | 2, ho =>
              have ho2 := Option.some.inj ho; clear ho; subst ho2
              have r8 : a.tmps.getD 8 undef = .pointer (some ⟨g, 0, none⟩) := (hk 8 (Flow.mem_looks (by kernel_rfl))).before (by kernel_rfl)
              have r32 : a.tmps.getD 32 undef = .int .i64 q := (hk 32 (Flow.mem_looks (by kernel_rfl))).by_ 0 (by kernel_rfl) (by decide)
              have r33 : a.tmps.getD 33 undef = .int .i64 p := (hk 33 (Flow.mem_looks (by kernel_rfl))).by_ 1 (by kernel_rfl) (by decide)
              rw [if_pos (Flow.wanted_free rfl _)]
              refine Flow.step_call (f := 17) (args := #[.pointer (some ⟨g, 0, none⟩), .int .i64 q, .int .i64 p]) (by simp [execOp, Act.eval, r8, r32, r33, go_sem]) ?_
              rw [HX.out]
              refine (sum_any g q p L6 _ (R6.out.below hw) Y6.out).mono ?_
              rintro e w1 ⟨rfl, hb1⟩
              exact ⟨_, rfl, hb1, rfl⟩
            | 3, ho =>
              have ho2 := Option.some.inj ho; clear ho; subst ho2
              have r8 : a.tmps.getD 8 undef = .pointer (some ⟨g, 0, none⟩) := (hk 8 (Flow.mem_looks (by kernel_rfl))).before (by kernel_rfl)
              rw [if_pos (Flow.wanted_free rfl _)]
              refine Flow.step_value (v := .slice (some ⟨g, 60, none⟩) 4 4) ?_ ⟨Below.refl _ _, rfl⟩
              simp [execOp, Act.eval, r8, go_sem]
            | 4, ho =>
              have ho2 := Option.some.inj ho; clear ho; subst ho2
              have r35 : a.tmps.getD 35 undef = .slice (some ⟨g, 60, none⟩) 4 4 := (hk 35 (Flow.mem_looks (by kernel_rfl))).by_ 3 (by kernel_rfl) (by decide)
              rw [if_pos (Flow.wanted_free rfl _)]
              refine Flow.step_value (v := .pointer (some ⟨g, 60, none⟩)) ?_ ⟨Below.refl _ _, rfl⟩
              have hA := run_arrayAt (P := Tryd.prog) w 38 5 4 (some ⟨g, 60, none⟩) 4 4 Tryd.underlying38 (by decide)
              simp [execOp, Act.eval, r35, go_sem, hA]
            | 5, ho =>
              have ho2 := Option.some.inj ho; clear ho; subst ho2
              have r36 : a.tmps.getD 36 undef = .pointer (some ⟨g, 60, none⟩) := (hk 36 (Flow.mem_looks (by kernel_rfl))).by_ 4 (by kernel_rfl) (by decide)
              rw [if_pos (Flow.wanted_free rfl _)]
              refine step_load_mid 38 (.tmp 36) rfl g 60 r36 (Z.map (Value.int .u8)) _ (RZ.out w hw) Tryd.underlying38 rfl (by rw [List.length_map, Z4.out]; kernel_rfl) ⟨Below.refl _ _, rfl⟩
            | 6, ho =>
              have ho2 := Option.some.inj ho; clear ho; subst ho2
              have r34 : a.tmps.getD 34 undef = .agg (X.map (Value.int .u8)).toArray := (hk 34 (Flow.mem_looks (by kernel_rfl))).by_ 2 (by kernel_rfl) (by decide)
              have r37 : a.tmps.getD 37 undef = .agg (Z.map (Value.int .u8)).toArray := (hk 37 (Flow.mem_looks (by kernel_rfl))).by_ 5 (by kernel_rfl) (by decide)
              rw [if_pos (Flow.wanted_free rfl _)]
              refine Flow.step_value (v := .bool true) ?_ ⟨Below.refl _ _, rfl⟩
              have hN := eq_bytes w X4.out Z4.out YX.out YZ.out
              rw [DD.out] at hN
              have hEq := run_eqGuard_agg (P := Tryd.prog) w .neq 38 (.tmp 34) (.tmp 37) (X.map (Value.int .u8)).toArray (Z.map (Value.int .u8)).toArray (by kernel_rfl)
              simp [execOp, Act.eval, r34, r37, go_sem, hN, hEq]
            | 7, ho =>
              have ho2 := Option.some.inj ho; clear ho; subst ho2
              have r38 : a.tmps.getD 38 undef = .bool true := (hk 38 (Flow.mem_looks (by kernel_rfl))).by_ 6 (by kernel_rfl) (by decide)
              rw [if_pos (Flow.wanted_free rfl _)]
              refine Flow.step_value (v := .bool true) ?_ ⟨Below.refl _ _, rfl⟩
              simp [execOp, Act.eval, r38, go_sem]
            | 8, ho =>
              have ho2 := Option.some.inj ho; clear ho; subst ho2
              have r9 : a.tmps.getD 9 undef = .int .i64 (e : Int) := (hk 9 (Flow.mem_looks (by kernel_rfl))).before (by kernel_rfl)
              have r39 : a.tmps.getD 39 undef = .bool true := (hk 39 (Flow.mem_looks (by kernel_rfl))).by_ 7 (by kernel_rfl) (by decide)
              rw [if_neg (by rw [Flow.unwanted_by rfl (t := 39) (by kernel_rfl) r39]; decide)]
              exact rfl
            | 9, ho =>
              have ho2 := Option.some.inj ho; clear ho; subst ho2
              have r8 : a.tmps.getD 8 undef = .pointer (some ⟨g, 0, none⟩) := (hk 8 (Flow.mem_looks (by kernel_rfl))).before (by kernel_rfl)
              have r40 : a.tmps.getD 40 undef = undef := (hk 40 (Flow.mem_looks (by kernel_rfl))).by_ 8 (by kernel_rfl) (by decide)
              have r39 : a.tmps.getD 39 undef = .bool true := (hk 39 (Flow.mem_looks (by kernel_rfl))).by_ 7 (by kernel_rfl) (by decide)
              rw [if_neg (by rw [Flow.unwanted_by rfl (t := 39) (by kernel_rfl) r39]; decide)]
              exact rfl
            | 10, ho =>
              have ho2 := Option.some.inj ho; clear ho; subst ho2
              have r41 : a.tmps.getD 41 undef = undef := (hk 41 (Flow.mem_looks (by kernel_rfl))).by_ 9 (by kernel_rfl) (by decide)
              have r39 : a.tmps.getD 39 undef = .bool true := (hk 39 (Flow.mem_looks (by kernel_rfl))).by_ 7 (by kernel_rfl) (by decide)
              rw [if_neg (by rw [Flow.unwanted_by rfl (t := 39) (by kernel_rfl) r39]; decide)]
              exact rfl
            | 11, ho =>
              have ho2 := Option.some.inj ho; clear ho; subst ho2
              have r42 : a.tmps.getD 42 undef = undef := (hk 42 (Flow.mem_looks (by kernel_rfl))).by_ 10 (by kernel_rfl) (by decide)
              have r39 : a.tmps.getD 39 undef = .bool true := (hk 39 (Flow.mem_looks (by kernel_rfl))).by_ 7 (by kernel_rfl) (by decide)
              rw [if_neg (by rw [Flow.unwanted_by rfl (t := 39) (by kernel_rfl) r39]; decide)]
              exact rfl
            | 12, ho =>
              have ho2 := Option.some.inj ho; clear ho; subst ho2
              have r43 : a.tmps.getD 43 undef = undef := (hk 43 (Flow.mem_looks (by kernel_rfl))).by_ 11 (by kernel_rfl) (by decide)
              have r39 : a.tmps.getD 39 undef = .bool true := (hk 39 (Flow.mem_looks (by kernel_rfl))).by_ 7 (by kernel_rfl) (by decide)
              rw [if_neg (by rw [Flow.unwanted_by rfl (t := 39) (by kernel_rfl) r39]; decide)]
              exact rfl
            | 13, ho =>
              have ho2 := Option.some.inj ho; clear ho; subst ho2
              have r39 : a.tmps.getD 39 undef = .bool true := (hk 39 (Flow.mem_looks (by kernel_rfl))).by_ 7 (by kernel_rfl) (by decide)
              have r44 : a.tmps.getD 44 undef = undef := (hk 44 (Flow.mem_looks (by kernel_rfl))).by_ 12 (by kernel_rfl) (by decide)
              rw [if_pos (Flow.wanted_free rfl _)]
              refine Flow.step_value (v := .bool true) ?_ ⟨Below.refl _ _, rfl⟩
              simp [execOp, Act.eval, r39, r44, go_sem]
            | _ + 14, ho => exact absurd ho (by simp)
          case fin =>
            intro a w4 hw4 hd4 hs4 hg hold
            have ea := Flow.act_eq (a := a) [a.tmps.getD 0 undef, a.tmps.getD 1 undef, a.tmps.getD 2 undef, a.tmps.getD 3 undef, a.tmps.getD 4 undef, a.tmps.getD 5 undef, a.tmps.getD 6 undef, a.tmps.getD 7 undef, .pointer (some ⟨g, 0, none⟩), .int .i64 (e : Int), a.tmps.getD 10 undef, a.tmps.getD 11 undef, a.tmps.getD 12 undef, a.tmps.getD 13 undef, a.tmps.getD 14 undef, a.tmps.getD 15 undef, a.tmps.getD 16 undef, a.tmps.getD 17 undef, a.tmps.getD 18 undef, a.tmps.getD 19 undef, a.tmps.getD 20 undef, a.tmps.getD 21 undef, a.tmps.getD 22 undef, a.tmps.getD 23 undef, a.tmps.getD 24 undef, a.tmps.getD 25 undef, a.tmps.getD 26 undef, a.tmps.getD 27 undef, a.tmps.getD 28 undef, a.tmps.getD 29 undef, a.tmps.getD 30 undef, a.tmps.getD 31 undef, a.tmps.getD 32 undef, a.tmps.getD 33 undef, a.tmps.getD 34 undef, a.tmps.getD 35 undef, a.tmps.getD 36 undef, a.tmps.getD 37 undef, a.tmps.getD 38 undef, a.tmps.getD 39 undef, a.tmps.getD 40 undef, a.tmps.getD 41 undef, a.tmps.getD 42 undef, a.tmps.getD 43 undef, a.tmps.getD 44 undef, .bool true, a.tmps.getD 46 undef, a.tmps.getD 47 undef, a.tmps.getD 48 undef, a.tmps.getD 49 undef] hs4 hd4 (by
              intro t ht
              match t, ht with
              | 0, _ => exact rfl
              | 1, _ => exact rfl
              | 2, _ => exact rfl
              | 3, _ => exact rfl
              | 4, _ => exact rfl
              | 5, _ => exact rfl
              | 6, _ => exact rfl
              | 7, _ => exact rfl
              | 8, _ => exact Flow.old_at hold 8 (by kernel_rfl)
              | 9, _ => exact Flow.old_at hold 9 (by kernel_rfl)
              | 10, _ => exact rfl
              | 11, _ => exact rfl
              | 12, _ => exact rfl
              | 13, _ => exact rfl
              | 14, _ => exact rfl
              | 15, _ => exact rfl
              | 16, _ => exact rfl
              | 17, _ => exact rfl
              | 18, _ => exact rfl
              | 19, _ => exact rfl
              | 20, _ => exact rfl
              | 21, _ => exact rfl
              | 22, _ => exact rfl
              | 23, _ => exact rfl
              | 24, _ => exact rfl
              | 25, _ => exact rfl
              | 26, _ => exact rfl
              | 27, _ => exact rfl
              | 28, _ => exact rfl
              | 29, _ => exact rfl
              | 30, _ => exact rfl
              | 31, _ => exact rfl
              | 32, _ => exact rfl
              | 33, _ => exact rfl
              | 34, _ => exact rfl
              | 35, _ => exact rfl
              | 36, _ => exact rfl
              | 37, _ => exact rfl
              | 38, _ => exact rfl
              | 39, _ => exact rfl
              | 40, _ => exact rfl
              | 41, _ => exact rfl
              | 42, _ => exact rfl
              | 43, _ => exact rfl
              | 44, _ => exact rfl
              | 45, _ => exact hg 13 _ 45 rfl rfl
              | 46, _ => exact rfl
              | 47, _ => exact rfl
              | 48, _ => exact rfl
              | 49, _ => exact rfl
              | t + 50, ht => exact absurd ht (by simp))
            rw [ea]
            generalize a.tmps.getD 0 undef = z0
            generalize a.tmps.getD 1 undef = z1
            generalize a.tmps.getD 2 undef = z2
            generalize a.tmps.getD 3 undef = z3
            generalize a.tmps.getD 4 undef = z4
            generalize a.tmps.getD 5 undef = z5
            generalize a.tmps.getD 6 undef = z6
            generalize a.tmps.getD 7 undef = z7
            generalize a.tmps.getD 10 undef = z10
            generalize a.tmps.getD 11 undef = z11
            generalize a.tmps.getD 12 undef = z12
            generalize a.tmps.getD 13 undef = z13
            generalize a.tmps.getD 14 undef = z14
            generalize a.tmps.getD 15 undef = z15
            generalize a.tmps.getD 16 undef = z16
            generalize a.tmps.getD 17 undef = z17
            generalize a.tmps.getD 18 undef = z18
            generalize a.tmps.getD 19 undef = z19
            generalize a.tmps.getD 20 undef = z20
            generalize a.tmps.getD 21 undef = z21
            generalize a.tmps.getD 22 undef = z22
            generalize a.tmps.getD 23 undef = z23
            generalize a.tmps.getD 24 undef = z24
            generalize a.tmps.getD 25 undef = z25
            generalize a.tmps.getD 26 undef = z26
            generalize a.tmps.getD 27 undef = z27
            generalize a.tmps.getD 28 undef = z28
            generalize a.tmps.getD 29 undef = z29
            generalize a.tmps.getD 30 undef = z30
            generalize a.tmps.getD 31 undef = z31
            generalize a.tmps.getD 32 undef = z32
            generalize a.tmps.getD 33 undef = z33
            generalize a.tmps.getD 34 undef = z34
            generalize a.tmps.getD 35 undef = z35
            generalize a.tmps.getD 36 undef = z36
            generalize a.tmps.getD 37 undef = z37
            generalize a.tmps.getD 38 undef = z38
            generalize a.tmps.getD 39 undef = z39
            generalize a.tmps.getD 40 undef = z40
            generalize a.tmps.getD 41 undef = z41
            generalize a.tmps.getD 42 undef = z42
            generalize a.tmps.getD 43 undef = z43
            generalize a.tmps.getD 44 undef = z44
            generalize a.tmps.getD 46 undef = z46
            generalize a.tmps.getD 47 undef = z47
            generalize a.tmps.getD 48 undef = z48
            generalize a.tmps.getD 49 undef = z49
            clear ea
            have X4' := Lib.hid (below_trans BW.out hw4 BW.out.size)
            clear hd4 hs4 hg hold hw4
            refine (‹∀ (a : Act) (w : World), Code.wp _ _ _ a w → _›) _ _ ?_
            go_wp2
            refine bodyPost_ret (results_tmp2 rfl _ _ _) rfl ?_
            exact get_none' HGG.out X4'.out
  · have hdd : decide ((n : Int) = 64) = false := decide_eq_false (by omega)
    have hdd2 : ((n : Int) == 64) = false := by rw [beq_eq_false_iff_ne]; omega
    go_enter Tryd.func9, Tryd.ntmps9
    go_wp2
    refine bodyPost_ret (results_tmp2 rfl _ _ _) rfl ?_
    refine get_none ?_ w
    unfold gets
    exact decide_eq_false fun h => h64 (L.out.symm.trans h.1)
end Go.Proofs.YtjfpmjbbgmhjgaaDoor.Crc
