/- What items cost. -/
import Derived.Test.YtclfbjbbdfejkaaO3
namespace Go.Proofs.Ytclfbjbbdfejkaa.Ord
open Go.RowKit

def costA : List Item → Int
  | [] => 0
  | x :: l => (if right x = true then x.cost else 0) + costA l
def costP : List Item → Int
  | [] => 0
  | x :: l => (if right x = true ∧ x.pin = true then x.cost else 0) + costP l
theorem costA_snoc (l : List Item) (x : Item) : costA (l ++ [x]) = costA l + (if right x = true then x.cost else 0) := by
  induction l with
  | nil => simp [costA]
  | cons y l ih => simp only [List.cons_append, costA, ih]; omega
theorem costP_snoc (l : List Item) (x : Item) : costP (l ++ [x]) = costP l + (if right x = true ∧ x.pin = true then x.cost else 0) := by
  induction l with
  | nil => simp [costP]
  | cons y l ih => simp only [List.cons_append, costP, ih]; omega
theorem right_cost {x : Item} (h : right x = true) : 0 ≤ x.cost ∧ x.cost ≤ 1048576 := by
  unfold right wth at h
  simp only [Bool.and_eq_true, decide_eq_true_eq] at h
  exact h.2.2.2
theorem cost_bd (l : List Item) : 0 ≤ costP l ∧ costP l ≤ costA l ∧ costA l ≤ l.length * 1048576 := by
  induction l with
  | nil => simp [costA, costP]
  | cons x l ih =>
    simp only [costA, costP, List.length_cons]
    by_cases h : right x = true
    · have := right_cost h
      rw [if_pos h]
      by_cases hp : x.pin = true
      · rw [if_pos ⟨h, hp⟩]; push_cast; omega
      · rw [if_neg (fun e => hp e.2)]; push_cast; omega
    · rw [if_neg h, if_neg (fun e => h e.1)]; push_cast; omega
def CostPost (L : List Item) (w : World) (e : Ending) (w' : World) : Prop := e = .returned (.tuple #[.int .i64 (costA L), .int .i64 (costP L)]) ∧ Below w.heap.size w w'
set_option maxRecDepth 100000 in
set_option maxHeartbeats 4000000 in
theorem cost_any (A : Option Addr) (n c : Nat) (L : List Item) (w : World) (hE : Its w A n c L) (hn : n ≤ 1000000) :
    Calls Try.prog 11 #[.slice A n c] w (CostPost L w) := by
  have HE := Lib.hid hE
  have HL := Lib.hid hE.len
  have hle := hE.le
  have hsm := hE.small
  clear hE
  go_enter Try.func11, Try.ntmps11
  go_wp2
  go_loopw [4, 5, 10] (fun u v i wr => ∃ k : Nat, k ≤ n ∧ i = .int .i64 k ∧ u = .int .i64 (costA (L.take k)) ∧ v = .int .i64 (costP (L.take k)) ∧ Below w.heap.size w wr) (fun _ _ i _ => n - (intOf i).toNat)
  case atStart => exact ⟨0, Nat.zero_le _, rfl, rfl, rfl, Below.refl _ _⟩
  case round =>
    obtain ⟨k, hk, rfl, rfl, rfl, hb⟩ := hrel
    have BB := Lib.hid hb
    obtain ⟨u, hu⟩ : ∃ u, u = costA (L.take k) := ⟨_, rfl⟩
    obtain ⟨v, hv⟩ : ∃ v, v = costP (L.take k) := ⟨_, rfl⟩
    have hbd := cost_bd (L.take k)
    rw [← hu, ← hv, List.length_take, HL.out] at hbd
    rw [← hu, ← hv]
    have HU := Lib.hid hu
    have HV := Lib.hid hv
    have hu1 : 0 ≤ u ∧ u ≤ 1048576000000 := by omega
    have hv1 : 0 ≤ v ∧ v ≤ 1048576000000 := by omega
    clear hbd hu hv
    by_cases hlt : k < n
    · have hkn : (k : Int) < n := by omega
      have hkL : k < L.length := by rw [HL.out]; exact hlt
      obtain ⟨ad, hAd⟩ : ∃ ad, A = some ad := by
        cases A with
        | none => have := HE.out.nil rfl; omega
        | some ad => exact ⟨ad, rfl⟩
      obtain ⟨b, o, rfl, hcells⟩ := (HE.out.below hb).spot ad hAd (by omega)
      subst hAd
      obtain ⟨x, hx⟩ : ∃ x, x = L[k] := ⟨_, rfl⟩
      have hat := hcells k hkL
      rw [← hx] at hat
      have HAT := Lib.hid hat
      have hsA := costA_snoc (L.take k) x
      have hsP := costP_snoc (L.take k) x
      rw [hx, ← List.take_succ_eq_append_getElem hkL, ← hx, ← HU.out] at hsA
      rw [hx, ← List.take_succ_eq_append_getElem hkL, ← hx, ← HV.out] at hsP
      have HSA := Lib.hid hsA
      have HSP := Lib.hid hsP
      have HII := Lib.hid (item_info x)
      have HI5 := Lib.hid (show (Try.prog.info? 24).map (·.size) = some x.cells.toArray.size from item_info x)
      have HO := Lib.hid (show x.cells.toArray.all (·.oneCell') = true by rw [List.all_toArray, List.all_eq_true]; exact item_one x)
      clear hcells hat hsA hsP hx hb
      go_upto_region 5 with (first | (refine wpList_load_mid rfl 24 (.tmp 12) rfl b (o + k * 5) rfl x.cells _ HAT.out.range Try.underlying24 rfl HII.out ?_) | (refine wpList_store_row rfl 24 (.tmp 7) (.tmp 13) rfl wr.heap.size x.cells.toArray rfl rfl 24 _ (heap_alloc_new _ _) HI5.out rfl HO.out ?_; rw [World.setRow_alloc_new]))
      obtain ⟨W1, hW1⟩ : ∃ W, W = wr.alloc (.cells x.cells.toArray 24) := ⟨_, rfl⟩
      rw [← hW1]
      have e1 : Below wr.heap.size wr W1 := by rw [hW1]; exact (Below.refl _ _).alloc (Nat.le_refl _) _
      obtain ⟨g, hg⟩ : ∃ b, b = wr.heap.size := ⟨_, rfl⟩
      rw [← hg]
      have HB1 := Lib.hid (show W1.heap[g]? = some (.cells x.cells.toArray 24 (0, 0)) by rw [hW1, hg]; exact heap_alloc_new _ _)
      have B1 := Lib.hid (below_trans BB.out e1 BB.out.size)
      clear hW1 e1 hg
      go_wp2_with (refine wpList_load_row rfl 24 (.tmp 7) rfl g rfl 24 x.cells.toArray (0, 0) _ HB1.out Try.underlying24 rfl HI5.out ?_)
      refine (right_any x W1).mono ?_
      rintro r W2 ⟨rfl, hb2⟩
      have hat2 := at_item (blk_below HB1.out hb2)
      have c3 : W2.cell? ⟨g, 3, none⟩ = some (.int .i64 x.cost) := hat2 3 (by rw [Item.cells_length]; decide)
      have c4 : W2.cell? ⟨g, 4, none⟩ = some (.bool x.pin) := hat2 4 (by rw [Item.cells_length]; decide)
      have B2 := Lib.hid (below_trans B1.out hb2 B1.out.size)
      obtain ⟨q, hq⟩ : ∃ q, q = right x := ⟨_, rfl⟩
      have hxc : q = true → 0 ≤ x.cost ∧ x.cost ≤ 1048576 := fun h => right_cost (by rw [← hq]; exact h)
      rw [← hq] at HSA HSP ⊢
      obtain ⟨p, hp⟩ : ∃ p, p = x.pin := ⟨_, rfl⟩
      rw [← hp] at HSP c4
      clear hat2 hb2 hq hp
      cases q with
      | false =>
        clear hxc
        go_wp2
        go_roundw
        case rel => exact ⟨k + 1, by omega, by go_num, by rw [HSA.out]; simp, by rw [HSP.out]; simp, B2.out⟩
        case measure => simp [intOf]; omega
      | true =>
        have hxb := hxc rfl
        clear hxc
        cases p with
        | false =>
          go_wp2
          go_roundw
          case rel => exact ⟨k + 1, by omega, by go_num, by rw [HSA.out]; simp, by rw [HSP.out]; simp, B2.out⟩
          case measure => simp [intOf]; omega
        | true =>
          go_wp2
          go_roundw
          case rel => exact ⟨k + 1, by omega, by go_num, by rw [HSA.out]; simp, by rw [HSP.out]; simp, B2.out⟩
          case measure => simp [intOf]; omega
    · have hkn : ¬ (k : Int) < n := by omega
      have htk : L.take k = L := List.take_of_length_le (by rw [HL.out]; omega)
      rw [htk] at HU HV
      clear htk
      go_wp2
      go_ret2
      exact ⟨by rw [HU.out, HV.out]; rfl, BB.out⟩
end Go.Proofs.Ytclfbjbbdfejkaa.Ord
