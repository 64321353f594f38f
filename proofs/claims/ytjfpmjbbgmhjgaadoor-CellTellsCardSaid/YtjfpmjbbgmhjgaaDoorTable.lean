/- crc.table: what four bits that fall out leave behind, sixteen numbers. -/
import Derived.Test.YtjfpmjbbgmhjgaaDoorProg
import Derived.WalkKit
import Derived.KernelRfl
import Derived.Laws.Rows
import Derived.Laws.Tables
import Derived.Test.YtjfpmjbbgmhjgaaDoorBits
import Derived.Lib.Hide
namespace Go.Proofs.YtjfpmjbbgmhjgaaDoor.Crc
open Go.RowKit CrcMath

def tabList (k : Nat) : List Value := (List.range 16).map fun i => if i < k then Value.int .u32 (T i) else Value.int .u32 0
theorem tabList_length (k : Nat) : (tabList k).length = 16 := by simp [tabList]
theorem tabList_get (k i : Nat) (h : i < 16) : (tabList k)[i]? = some (if i < k then Value.int .u32 (T i) else Value.int .u32 0) := by
  simp [tabList, h]
theorem tabList_set (k : Nat) (h : k < 16) : (tabList k).set k (.int .u32 (T k)) = tabList (k + 1) := by
  apply List.ext_getElem?
  intro i
  rcases Nat.lt_or_ge i 16 with hi | hi
  · rw [tabList_get _ _ hi, List.getElem?_set]
    rcases Nat.lt_trichotomy i k with h1 | h1 | h1
    · rw [if_neg (by omega), tabList_get _ _ hi, if_pos h1, if_pos (by omega)]
    · subst h1
      rw [if_pos rfl, if_pos (by rw [tabList_length]; exact h), if_pos (by omega)]
    · rw [if_neg (by omega), tabList_get _ _ hi, if_neg (by omega), if_neg (by omega)]
  · rw [List.getElem?_eq_none (by simp [tabList_length]; exact hi), List.getElem?_eq_none (by simp [tabList_length]; exact hi)]

/-- The world while the table is made. -/
def tabWorld (w : World) (k : Nat) : World := (w.alloc (.cells (tabList 0).toArray 61)).alloc (.cells (tabList k).toArray 61)
theorem tabWorld_cell (w : World) (k i : Nat) (h : i < 16) : (tabWorld w k).cell? ⟨w.heap.size + 1, i, none⟩ = some (if i < k then Value.int .u32 (T i) else Value.int .u32 0) := by
  unfold tabWorld
  rw [World.cell?_alloc_at _ _ _ _ (by simp)]
  simp [tabList_get _ _ h]
theorem tabWorld_free (w : World) (k i : Nat) : (tabWorld w k).frozen? ⟨w.heap.size + 1, i, none⟩ = false := by
  unfold tabWorld
  rw [World.frozen?_alloc_at _ _ _ _ (by simp)]
theorem tabWorld_set (w : World) (k : Nat) (h : k < 16) : (tabWorld w k).setCell ⟨w.heap.size + 1, k, none⟩ (.int .u32 (T k)) = tabWorld w (k + 1) := by
  unfold tabWorld
  rw [World.setCell_alloc_at _ _ _ _ _ (by simp), ← tabList_set k h]
  simp
set_option maxHeartbeats 1000000 in
set_option maxRecDepth 100000 in
theorem table_any (w : World) : Calls Tryd.prog 39 #[] w fun e w' => e = .returned (.agg (tabList 16).toArray) ∧ Below w.heap.size w w' := by
  go_enter Tryd.func39, Tryd.ntmps39
  go_wp2
  go_loopw [4] (fun i wr => ∃ k : Nat, k ≤ 16 ∧ i = .int .i64 k ∧ wr = tabWorld w k) (fun i _ => 16 - (intOf i).toNat)
  case atStart => exact ⟨0, by omega, rfl, rfl⟩
  case round =>
    obtain ⟨k, hk, rfl, hw⟩ := hrel
    by_cases h16 : k < 16
    · have hc : wr.cell? ⟨w.heap.size + 1, k, none⟩ = some (.int .u32 0) := by rw [hw, tabWorld_cell _ _ _ h16, if_neg (by omega)]
      have hf : wr.frozen? ⟨w.heap.size + 1, k, none⟩ = false := by rw [hw, tabWorld_free]
      have HW := Lib.hid hw
      clear hw
      have H4 : decide ((k : Int) < 16) = true := decide_eq_true (by omega)
      go_wp2
      go_loop [3, 9] (fun r j => ∃ m : Nat, m ≤ 4 ∧ j = .int .i64 m ∧ r = .int .u32 (N (sts m (BitVec.ofNat 32 k)))) (fun _ j => 4 - (intOf j).toNat)
      case atStart => exact ⟨0, by omega, rfl, by rw [show N (sts 0 (BitVec.ofNat 32 k)) = (k : Int) from by have := N_of (s := (k : Int)) (by omega) (by omega); simpa [sts] using this]⟩
      case round =>
        obtain ⟨m, hm, rfl, rfl⟩ := hrel
        obtain ⟨x, hx⟩ : ∃ x, x = sts m (BitVec.ofNat 32 k) := ⟨_, rfl⟩
        have hs : sts (m + 1) (BitVec.ofNat 32 k) = st x := by rw [sts_succ, hx]
        rw [← hx]
        have HX := Lib.hid hx
        have HS := Lib.hid hs
        clear hx hs
        have h0 := (N_range x).1
        by_cases hm4 : m < 4
        · cases hb : x.getLsbD 0 with
          | true =>
            have e1 := Lib.hid (N_st1 x hb)
            have e2 : bits .and .u32 (N x) 1 = 1 := by rw [N_and1, hb]; rfl
            clear hb
            go_wp2
            go_round
            case rel => exact ⟨m + 1, by omega, by go_num, by rw [HS.out, e1.out]⟩
            case measure => simp [intOf]; omega
          | false =>
            have e1 := Lib.hid (N_st0 x hb)
            have e2 : bits .and .u32 (N x) 1 = 0 := by rw [N_and1, hb]; rfl
            clear hb
            go_wp2
            go_round
            case rel => exact ⟨m + 1, by omega, by go_num, by rw [HS.out, e1.out]⟩
            case measure => simp [intOf]; omega
        · have e4 : m = 4 := by omega
          have ht : N x = T k := by rw [HX.out, e4]; rfl
          have HT := Lib.hid ht
          clear ht
          clear e4
          go_wp2
          go_roundw
          case rel => exact ⟨k + 1, by omega, by go_num, by rw [HT.out, HW.out]; exact tabWorld_set w k h16⟩
          case measure => simp [intOf]; omega
    · have e16 : k = 16 := by omega
      subst e16
      have hg1 : wr.heap[w.heap.size + 1]? = some (.cells (tabList 16).toArray 61 (0, 0)) := by rw [hw]; exact heap_alloc2_new _ _ _
      have hg0 : wr.heap[w.heap.size]? = some (.cells (tabList 0).toArray 61 (0, 0)) := by rw [hw]; exact heap_alloc2_old _ _ _
      have hB : Below w.heap.size w wr := by rw [hw]; exact ((Below.refl _ _).alloc (Nat.le_refl _) _).alloc (by simp) _
      have hs0 : (tabList 0).toArray.size = 16 := by simp [tabList_length]
      have h1 : (tabList 16).toArray.all (·.oneCell') = true := by
        simp only [List.all_toArray, tabList, List.all_map, List.all_eq_true]
        intro i _
        show (if i < 16 then Value.int .u32 (T i) else Value.int .u32 0).oneCell' = true
        split <;> rfl
      have hs16 : (tabList 16).toArray.size = 16 := by simp [tabList_length]
      obtain ⟨C, hC⟩ : ∃ C, C = (tabList 16).toArray := ⟨_, rfl⟩
      obtain ⟨Z, hZ⟩ : ∃ C, C = (tabList 0).toArray := ⟨_, rfl⟩
      rw [← hC] at hg1 h1 hs16
      rw [← hZ] at hg0 hs0
      have hi : (Tryd.prog.info? 61).map (·.size) = some C.size := by rw [hs16]; kernel_rfl
      have HG1 := Lib.hid hg1
      have HG0 := Lib.hid hg0
      have HI := Lib.hid hi
      have H1 := Lib.hid h1
      have hzs : Z.size = C.size := by rw [hs0, hs16]
      have HS := Lib.hid hzs
      clear hzs
      have HC := Lib.hid hC
      clear hw hg1 hg0 hi h1 hs0 hs16 hC hZ h16 hk
      go_wp2_with (first | ((with_reducible refine wpList_load_row rfl 61 (.tmp 1) rfl (w.heap.size + 1) rfl 61 C (0, 0) _ HG1.out Tryd.underlying61 rfl HI.out ?_)) | ((with_reducible refine wpList_store_row rfl 61 (.tmp 0) (.tmp 24) rfl w.heap.size C rfl rfl 61 Z HG0.out HI.out HS.out H1.out ?_)))
      refine bodyPost_ret (results_cell_row (fn := Tryd.f39) (p := 0) (ty := 61) rfl _ _ w.heap.size 61 C (0, 0) _ rfl (setRow_heap _ _ _ _ _ _ HG0.out) Tryd.underlying61 rfl HI.out) rfl ?_
      refine ⟨by rw [HC.out], ?_⟩
      exact hB.trans ⟨rfl, rfl, rfl, Nat.le_of_eq (setRow_size _ _ _).symm, fun i hi => setRow_other _ _ _ _ (Nat.ne_of_lt hi)⟩
end Go.Proofs.YtjfpmjbbgmhjgaaDoor.Crc
