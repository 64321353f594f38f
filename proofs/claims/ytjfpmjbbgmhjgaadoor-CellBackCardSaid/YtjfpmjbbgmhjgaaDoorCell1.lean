/- cell.Right, cell.Room, the document's; a number's four bytes. -/
import Derived.Test.YtjfpmjbbgmhjgaaDoorRef2
import Derived.Deep.WholeRow
import Derived.BigQuiet
import Derived.Deep.QuietTactic
namespace Go.Proofs.YtjfpmjbbgmhjgaaDoor.Crc
open Go.RowKit CrcMath

/-- May a sector be of that number, and place? -/
def right (q p : Int) : Bool := decide (1 ≤ q) && (decide (q ≤ 2147483648) && (decide (0 ≤ p) && decide (p ≤ 255)))

set_option maxHeartbeats 1000000 in
theorem right_any (q p : Int) (w : World) : Calls Tryd.prog 13 #[.int .i64 q, .int .i64 p] w fun e w' => e = .returned (.bool (right q p)) ∧ w = w' := by
  have key : ∀ b1 b2 b3 b4, decide (1 ≤ q) = b1 → decide (q ≤ 2147483648) = b2 → decide (0 ≤ p) = b3 → decide (p ≤ 255) = b4 →
      Calls Tryd.prog 13 #[.int .i64 q, .int .i64 p] w fun e w' => e = .returned (.bool (b1 && (b2 && (b3 && b4)))) ∧ w = w' := by
    intro b1 b2 b3 b4 h1 h2 h3 h4
    cases b1 <;> cases b2 <;> cases b3 <;> cases b4
    all_goals
      go_enter Tryd.func13, Tryd.ntmps13
      go_wp2
      go_ret
      exact ⟨rfl, rfl⟩
  exact key _ _ _ _ rfl rfl rfl rfl
set_option maxHeartbeats 1000000 in
theorem refright_any (q p : Int) (w : World) : Calls Tryd.prog 14 #[.int .i64 q, .int .i64 p] w fun e w' => e = .returned (.bool (right q p)) ∧ w = w' := by
  have key : ∀ b1 b2 b3 b4, decide (1 ≤ q) = b1 → decide (q ≤ 2147483648) = b2 → decide (0 ≤ p) = b3 → decide (p ≤ 255) = b4 →
      Calls Tryd.prog 14 #[.int .i64 q, .int .i64 p] w fun e w' => e = .returned (.bool (b1 && (b2 && (b3 && b4)))) ∧ w = w' := by
    intro b1 b2 b3 b4 h1 h2 h3 h4
    cases b1 <;> cases b2 <;> cases b3 <;> cases b4
    all_goals
      go_enter Tryd.func14, Tryd.ntmps14
      go_wp2
      go_ret
      exact ⟨rfl, rfl⟩
  exact key _ _ _ _ rfl rfl rfl rfl
theorem room_any (w : World) : Calls Tryd.prog 15 #[] w fun e w' => e = .returned (.int .i64 59) ∧ w = w' := by
  go_enter Tryd.func15, Tryd.ntmps15
  go_wp2
  go_ret
  exact ⟨rfl, rfl⟩
theorem refroom_any (w : World) : Calls Tryd.prog 16 #[] w fun e w' => e = .returned (.int .i64 59) ∧ w = w' := by
  go_enter Tryd.func16, Tryd.ntmps16
  go_wp2
  go_ret
  exact ⟨rfl, rfl⟩

/-! cell.four -/
def quad (x : BitVec 32) (k : Nat) : List Value := (List.range 4).map fun i => if i < k then Value.int .u8 ((le x).getD i 0) else Value.int .u8 0
theorem quad_length (x : BitVec 32) (k : Nat) : (quad x k).length = 4 := by simp [quad]
theorem quad_get (x : BitVec 32) (k i : Nat) (h : i < 4) : (quad x k)[i]? = some (if i < k then Value.int .u8 ((le x).getD i 0) else Value.int .u8 0) := by
  simp [quad, h]
theorem quad_set (x : BitVec 32) (k : Nat) (h : k < 4) : (quad x k).set k (.int .u8 ((le x).getD k 0)) = quad x (k + 1) := by
  apply List.ext_getElem?
  intro i
  rcases Nat.lt_or_ge i 4 with hi | hi
  · rw [quad_get _ _ _ hi, List.getElem?_set]
    rcases Nat.lt_trichotomy i k with h1 | h1 | h1
    · rw [if_neg (by omega), quad_get _ _ _ hi, if_pos h1, if_pos (by omega)]
    · subst h1
      rw [if_pos rfl, if_pos (by rw [quad_length]; exact h), if_pos (by omega)]
    · rw [if_neg (by omega), quad_get _ _ _ hi, if_neg (by omega), if_neg (by omega)]
  · rw [List.getElem?_eq_none (by simp [quad_length]; exact hi), List.getElem?_eq_none (by simp [quad_length]; exact hi)]
theorem quad_all (x : BitVec 32) : quad x 4 = (le x).map (Value.int .u8) := by
  simp [quad, le, List.range, List.range.loop]
def quadWorld (w : World) (x : BitVec 32) (k : Nat) : World := (w.alloc (.cells (quad x 0).toArray 38)).alloc (.cells (quad x k).toArray 38)
theorem quadWorld_free (w : World) (x : BitVec 32) (k i : Nat) : (quadWorld w x k).frozen? ⟨w.heap.size + 1, i, none⟩ = false := by
  unfold quadWorld
  rw [World.frozen?_alloc_at _ _ _ _ (by simp)]
theorem quadWorld_cell (w : World) (x : BitVec 32) (k i : Nat) (h : i < 4) : (quadWorld w x k).cell? ⟨w.heap.size + 1, i, none⟩ = some (if i < k then Value.int .u8 ((le x).getD i 0) else Value.int .u8 0) := by
  unfold quadWorld
  rw [World.cell?_alloc_at _ _ _ _ (by simp)]
  simp [quad_get _ _ _ h]
theorem quadWorld_set (w : World) (x : BitVec 32) (k : Nat) (h : k < 4) : (quadWorld w x k).setCell ⟨w.heap.size + 1, k, none⟩ (.int .u8 ((le x).getD k 0)) = quadWorld w x (k + 1) := by
  unfold quadWorld
  rw [World.setCell_alloc_at _ _ _ _ _ (by simp), ← quad_set x k h]
  simp
theorem le_at (x : BitVec 32) (k : Nat) (h : k < 4) : (le x).getD k 0 = N x / 2 ^ (8 * k) % 256 := by
  match k, h with
  | 0, _ => simp [le]
  | 1, _ => rfl
  | 2, _ => rfl
  | 3, _ => rfl
set_option maxHeartbeats 1000000 in
set_option maxRecDepth 100000 in
theorem four_any (x : BitVec 32) (w : World) : Calls Tryd.prog 22 #[.int .u32 (N x)] w fun e w' => e = .returned (.agg ((le x).map (Value.int .u8)).toArray) ∧ Below w.heap.size w w' := by
  have hx0 := (N_range x).1
  go_enter Tryd.func22, Tryd.ntmps22
  go_wp2
  go_loopw [5] (fun i wr => ∃ k : Nat, k ≤ 4 ∧ i = .int .i64 k ∧ wr = quadWorld w x k) (fun i _ => 4 - (intOf i).toNat)
  case atStart => exact ⟨0, by omega, rfl, rfl⟩
  case round =>
    obtain ⟨k, hk, rfl, hw⟩ := hrel
    by_cases h4 : k < 4
    · have hc : wr.cell? ⟨w.heap.size + 1, k, none⟩ = some (.int .u8 0) := by rw [hw, quadWorld_cell _ _ _ _ h4, if_neg (by omega)]
      have hf : wr.frozen? ⟨w.heap.size + 1, k, none⟩ = false := by rw [hw, quadWorld_free]
      have HW := Lib.hid hw
      clear hw
      go_wp2
      go_roundw
      case rel =>
        refine ⟨k + 1, by omega, by go_num, ?_⟩
        rw [HW.out, ← le_at x k h4]
        exact quadWorld_set w x k h4
      case measure => simp [intOf]; omega
    · have e4 : k = 4 := by omega
      subst e4
      have hg1 : wr.heap[w.heap.size + 1]? = some (.cells (quad x 4).toArray 38 (0, 0)) := by rw [hw]; exact heap_alloc2_new _ _ _
      have hg0 : wr.heap[w.heap.size]? = some (.cells (quad x 0).toArray 38 (0, 0)) := by rw [hw]; exact heap_alloc2_old _ _ _
      have hB : Below w.heap.size w wr := by rw [hw]; exact ((Below.refl _ _).alloc (Nat.le_refl _) _).alloc (by simp) _
      have hs0 : (quad x 0).toArray.size = 4 := by simp [quad_length]
      have hs4 : (quad x 4).toArray.size = 4 := by simp [quad_length]
      rw [quad_all] at hg1 hs4
      have h1 : ((le x).map (Value.int .u8)).toArray.all (·.oneCell') = true := by
        simp only [List.all_toArray, List.all_map, List.all_eq_true]
        intro i _
        rfl
      obtain ⟨C, hC⟩ : ∃ C, C = ((le x).map (Value.int .u8)).toArray := ⟨_, rfl⟩
      obtain ⟨Z, hZ⟩ : ∃ C, C = (quad x 0).toArray := ⟨_, rfl⟩
      rw [← hC] at hg1 h1 hs4
      rw [← hZ] at hg0 hs0
      have hi : (Tryd.prog.info? 38).map (·.size) = some C.size := by rw [hs4]; kernel_rfl
      have HG1 := Lib.hid hg1
      have HG0 := Lib.hid hg0
      have HI := Lib.hid hi
      have H1 := Lib.hid h1
      have hzs : Z.size = C.size := by rw [hs0, hs4]
      have HS := Lib.hid hzs
      clear hzs
      have HC := Lib.hid hC
      clear hw hg1 hg0 hi h1 hs0 hs4 hC hZ h4 hk
      go_wp2_with (first | ((with_reducible refine wpList_load_row rfl 38 (.tmp 3) rfl (w.heap.size + 1) rfl 38 C (0, 0) _ HG1.out Tryd.underlying38 rfl HI.out ?_)) | ((with_reducible refine wpList_store_row rfl 38 (.tmp 2) (.tmp 16) rfl w.heap.size C rfl rfl 38 Z HG0.out HI.out HS.out H1.out ?_)))
      refine bodyPost_ret (results_cell_row (fn := Tryd.f22) (p := 2) (ty := 38) rfl _ _ w.heap.size 38 C (0, 0) _ rfl (setRow_heap _ _ _ _ _ _ HG0.out) Tryd.underlying38 rfl HI.out) rfl ?_
      refine ⟨by rw [HC.out], ?_⟩
      exact hB.trans ⟨rfl, rfl, rfl, Nat.le_of_eq (setRow_size _ _ _).symm, fun i hi => setRow_other _ _ _ _ (Nat.ne_of_lt hi)⟩

/-- turntableref08.four -/
theorem reffour_any (x : BitVec 32) (w : World) : Calls Tryd.prog 21 #[.int .u32 (N x)] w (RowPost w 4 (le x)) := by
  have hx0 := (N_range x).1
  go_enter Tryd.func21, Tryd.ntmps21
  go_wp2
  go_ret
  refine ⟨⟨_, rfl, ?_⟩, (Below.refl _ _).alloc (Nat.le_refl _) _⟩
  exact World.ownsRow_lit w _ 4 (Nat.le_refl _) (by simp [maxLen]) rfl

/-- Left of them the zeros are gone. -/
def tl (l : List Int) : List Int := l.dropWhile (· == 0)
end Go.Proofs.YtjfpmjbbgmhjgaaDoor.Crc
