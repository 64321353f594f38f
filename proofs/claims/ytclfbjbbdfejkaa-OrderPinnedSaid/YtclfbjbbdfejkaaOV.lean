/- numbered: some, each with its own number. -/
import Derived.Test.YtclfbjbbdfejkaaOU
namespace Go.Proofs.Ytclfbjbbdfejkaa.Ord
open Go.RowKit

/-- One cell of one item is put in its place. -/
theorem OwnI.put1 {w : World} {base g n c : Nat} {L : List Item} (h : OwnI w base (sl g n c) n L) {k j : Nat} (hk : k < n) (hj : j < 5) (v : Value) (y : Item) (hy : y.cells = (nth L k).cells.set j v) : OwnI (w.setCell ⟨g, k * 5 + j, none⟩ v) base (sl g n c) n (L.set k y) := by
  have hl := h.len
  obtain ⟨cur, h1, h2, h3, h4, h5, h6⟩ := h.block
  obtain ⟨ds, e1, e2, e3⟩ := heap_setCells g 24 [v] (k * 5 + j) w cur h1 (by simp; omega)
  refine ⟨by rw [its_len, List.length_set, hl], .inr ⟨g, c, ds, rfl, h2, e1, h3, h4, by rw [e2, h5], ?_⟩⟩
  apply List.ext_getElem?
  intro t
  rw [flat_get, List.getElem?_take]
  have h7 := congrArg (fun l : List Value => l[t]?) h6
  simp only [List.getElem?_take, flat_get] at h7
  split
  · rename_i ht
    rw [if_pos ht] at h7
    rw [Array.getElem?_toList, e3 t]
    rw [Array.getElem?_toList] at h7
    by_cases e : k = t / 5
    · have hkL : t / 5 < L.length := by omega
      rw [List.getElem?_set, if_pos e, if_pos (show k < L.length by rw [e]; exact hkL)]
      show _ = y.cells[t % 5]?
      rw [hy, nth_eq (by rw [e]; exact hkL)]
      rw [List.getElem?_eq_getElem hkL] at h7
      by_cases e4 : t = k * 5 + j
      · rw [if_pos (by simp; omega), List.getElem?_set, if_pos (by omega), if_pos (by rw [Item.cells_length]; omega), show t - (k * 5 + j) = 0 by omega]
        rfl
      · rw [if_neg (by simp; omega), List.getElem?_set_ne (by omega), h7]
        subst e
        rfl
    · rw [if_neg (by simp; omega), List.getElem?_set_ne e, h7]
  · rename_i ht
    rw [if_neg ht] at h7
    by_cases e : k = t / 5
    · omega
    · rw [List.getElem?_set_ne e, h7]
theorem grown_set (w : World) (g o : Nat) (v : Value) : w.grownBy (w.setCell ⟨g, o, none⟩ v) (some g) := grown_setCells w g o [v]
/-- With another number. -/
def reId (x : Item) (i : Int) : Item := { x with id := i }
def numL : Nat → List Item → List Item
  | _, [] => []
  | k, x :: l => reId x (k + 1 : Nat) :: numL (k + 1) l
theorem numL_length : ∀ k l, (numL k l).length = l.length
  | _, [] => rfl
  | k, x :: l => by simp [numL, numL_length (k + 1) l]
theorem numL_get : ∀ (l : List Item) (k i : Nat), i < l.length → nth (numL k l) i = reId (nth l i) (k + i + 1 : Nat)
  | [], _, _, h => absurd h (by simp)
  | x :: l, k, 0, _ => rfl
  | x :: l, k, i + 1, h => by
    have := numL_get l (k + 1) i (by simpa using h)
    show nth (numL (k + 1) l) i = reId (nth l i) _
    rw [this, show k + 1 + i + 1 = k + (i + 1) + 1 by omega]
theorem numL_snoc : ∀ (l : List Item) (k : Nat) (x : Item), numL k (l ++ [x]) = numL k l ++ [reId x (k + l.length + 1 : Nat)]
  | [], k, x => rfl
  | y :: l, k, x => by
    show reId y _ :: numL (k + 1) (l ++ [x]) = _
    rw [numL_snoc l (k + 1) x]
    show _ = reId y _ :: (numL (k + 1) l ++ _)
    rw [List.length_cons, show k + 1 + l.length + 1 = k + (l.length + 1) + 1 by omega]
    first | done | rfl
/-- The first k are numbered. -/
def part (L : List Item) (k : Nat) : List Item := numL 0 (L.take k) ++ L.drop k
theorem part_length (L : List Item) (k : Nat) : (part L k).length = L.length := by simp [part, numL_length]; omega
theorem part_nth (L : List Item) {k : Nat} (hk : k < L.length) : nth (part L k) k = L[k] := by
  rw [nth_eq (by rw [part_length]; exact hk)]
  unfold part
  rw [List.getElem_append_right (by rw [numL_length, List.length_take]; omega), List.getElem_drop]
  congr 1
  rw [numL_length, List.length_take]; omega
theorem part_step (L : List Item) {k : Nat} (hk : k < L.length) : (part L k).set k (reId L[k] (k + 1 : Nat)) = part L (k + 1) := by
  have hlen : (numL 0 (L.take k)).length = k := by rw [numL_length, List.length_take]; omega
  unfold part
  rw [List.set_append_right _ _ (by omega), hlen, Nat.sub_self, List.drop_eq_getElem_cons hk, List.take_succ_eq_append_getElem hk, numL_snoc, List.length_take, List.append_assoc, Nat.min_eq_left (by omega), Nat.zero_add]
  rfl
set_option maxRecDepth 100000 in
set_option maxHeartbeats 4000000 in
theorem numbered_any (A : Option Addr) (n c : Nat) (L : List Item) (w : World) (hE : Its w A n c L) (hn : n ≤ 100000) :
    Calls Try.prog 21 #[.slice A n c] w (ClonePost w n (numL 0 L)) := by
  have HE := Lib.hid hE
  have HL := Lib.hid hE.len
  have hle := hE.le
  have hsm := hE.small
  clear hE
  go_enter Try.func21, Try.ntmps21
  go_upto_region 2 with (at_builtin; refine append_src rfl (.tmp 5) (.tmp 6) 22 24 zeroE 5 40 rfl Try.underlying22 infoE rfl (by decide) w.heap.size _ 0 _ rfl (own_empty _ _ _ (Nat.le_refl _)) A n c (L.flatMap Item.cells) rfl ((HE.out.below ((Below.refl _ _).alloc (Nat.le_refl _) _)).src) (by unfold maxLen; omega) (by omega) (by simp) ?_; intro v' w5 hown hg; have H5 := Lib.hid hown; have G5 := Lib.hid hg; clear hown hg)
  have O5 : OwnI w5 w.heap.size v' n L := by
    have := H5.out
    rw [Nat.zero_add, List.nil_append] at this
    exact this
  have B5 := Lib.hid (below_grown ((Below.refl _ _).alloc (Nat.le_refl _) _) G5.out (by simp) (fun k hk => by cases hk; exact Nat.le_refl _))
  rcases own_cases O5 with ⟨rfl, rfl, rfl⟩ | ⟨g, c2, rfl⟩
  · have OO := Lib.hid O5
    clear O5
    go_wp2
    go_loopw [4] (fun i wr => i = .int .i64 0 ∧ wr = w5) (fun _ _ => 0)
    case atStart => exact ⟨rfl, rfl⟩
    case round =>
      obtain ⟨rfl, rfl⟩ := hrel
      go_wp2
      go_ret
      exact ⟨_, rfl, OO.out, B5.out⟩
  · have OO := Lib.hid (show OwnI w5 w.heap.size (sl g n c2) n (part L 0) by unfold part; simpa [numL] using O5)
    have hg1 := Lib.hid O5.lt.1
    have hc2 := O5.small
    clear O5
    go_wp2
    go_loopw [4] (fun i wr => ∃ k : Nat, i = .int .i64 k ∧ k ≤ n ∧ OwnI wr w.heap.size (sl g n c2) n (part L k) ∧ Below w.heap.size w wr) (fun i _ => n - (intOf i).toNat)
    case atStart => exact ⟨0, rfl, Nat.zero_le _, OO.out, B5.out⟩
    case round =>
      obtain ⟨k, rfl, hk, hown, hb⟩ := hrel
      have OW := Lib.hid hown
      have BB := Lib.hid hb
      clear hown hb
      by_cases hlt : k < n
      · have hkn : (k : Int) < n := by omega
        have hkL : k < L.length := by rw [HL.out]; exact hlt
        obtain ⟨x, hx⟩ : ∃ x, x = (part L k)[k]'(by rw [part_length]; exact hkL) := ⟨_, rfl⟩
        have hat := OW.out.at (k := k) (by rw [part_length]; exact hkL)
        rw [← hx] at hat
        have cc : wr.cell? ⟨g, k * 5, none⟩ = some (.int .i64 x.id) := hat 0 (by rw [Item.cells_length]; decide)
        have ff : wr.frozen? ⟨g, k * 5, none⟩ = false := (OW.out.there hlt 0 (by decide)).2
        have O6 := Lib.hid (show OwnI (wr.setCell ⟨g, k * 5, none⟩ (.int .i64 (k + 1))) w.heap.size (sl g n c2) n (part L (k + 1)) by
          rw [← part_step L hkL, ← part_nth L hkL]
          exact OW.out.put1 (j := 0) hlt (by decide) _ _ rfl)
        have B6 := Lib.hid (below_grown BB.out (grown_set wr g (k * 5) (.int .i64 (k + 1))) BB.out.size (fun j hj => by cases hj; exact hg1.out))
        clear hat hx
        go_upto_region 4 with fail
        obtain ⟨W7, hW7⟩ : ∃ W, W = wr.setCell ⟨g, k * 5, none⟩ (.int .i64 (k + 1)) := ⟨_, rfl⟩
        rw [← hW7] at O6 B6 ⊢
        clear hW7 cc ff
        go_wp2
        go_roundw
        case rel => exact ⟨k + 1, by go_num, by omega, O6.out, B6.out⟩
        case measure => simp [intOf]; omega
      · have hkn : ¬ (k : Int) < n := by omega
        have HP : Hid (part L k = numL 0 L) := Lib.hid (by unfold part; rw [List.take_of_length_le (by rw [HL.out]; omega), List.drop_of_length_le (by rw [HL.out]; omega), List.append_nil])
        go_wp2
        go_ret
        exact ⟨_, rfl, by rw [← HP.out]; exact OW.out, BB.out⟩
end Go.Proofs.Ytclfbjbbdfejkaa.Ord
