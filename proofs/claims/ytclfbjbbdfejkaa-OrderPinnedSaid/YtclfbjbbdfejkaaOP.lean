/- The plain law of a stable sort: rows that are turned, class by class as they were. -/
import Derived.Test.YtclfbjbbdfejkaaO7
namespace Go.Proofs.Ytclfbjbbdfejkaa.Ord

/-! ### Rows by places -/
theorem ext_nth {L M : List Item} (hl : L.length = M.length) (h : ∀ t, t < L.length → nth L t = nth M t) : L = M := by
  apply List.ext_getElem hl
  intro t h1 h2
  have := h t h1
  rwa [nth_eq h1, nth_eq h2] at this
/-- The row that holds at t what L holds at f t. -/
def pick (f : Nat → Nat) (L : List Item) : List Item := (List.range L.length).map fun t => nth L (f t)
theorem pick_length (f : Nat → Nat) (L : List Item) : (pick f L).length = L.length := by simp [pick]
theorem nth_pick (f : Nat → Nat) (L : List Item) {t : Nat} (ht : t < L.length) : nth (pick f L) t = nth L (f t) := by
  rw [nth_eq (by rw [pick_length]; exact ht)]
  simp [pick]
theorem pick_pick (f h : Nat → Nat) (L : List Item) (hf : ∀ t, t < L.length → f t < L.length) : pick f (pick h L) = pick (fun t => h (f t)) L := by
  apply ext_nth (by simp [pick_length])
  intro t ht
  rw [pick_length, pick_length] at ht
  rw [nth_pick _ _ (by rw [pick_length]; exact ht), nth_pick _ _ (hf t ht), nth_pick _ _ ht]
theorem pick_congr {f h : Nat → Nat} (L : List Item) (e : ∀ t, t < L.length → f t = h t) : pick f L = pick h L := by
  apply ext_nth (by simp [pick_length])
  intro t ht
  rw [pick_length] at ht
  rw [nth_pick _ _ ht, nth_pick _ _ ht, e t ht]
theorem pick_id (L : List Item) : pick (fun t => t) L = L := by
  apply ext_nth (by simp [pick_length])
  intro t ht
  rw [pick_length] at ht
  rw [nth_pick _ _ ht]
def swI (i j t : Nat) : Nat := if t = j then i else if t = i then j else t
theorem nth_set (L : List Item) (i t : Nat) (x : Item) (hi : i < L.length) : nth (L.set i x) t = if i = t then x else nth L t := by
  unfold nth
  rw [List.getD_eq_getElem?_getD, List.getElem?_set, List.getD_eq_getElem?_getD]
  split
  · rename_i h; subst h; rfl
  · rfl
theorem sw_pick (L : List Item) {i j : Nat} (hi : i < L.length) (hj : j < L.length) : sw L i j = pick (swI i j) L := by
  apply ext_nth (by simp [sw_length, pick_length])
  intro t ht
  rw [sw_length] at ht
  rw [nth_pick _ _ ht, sw, nth_set _ _ _ _ (by simpa using hj), nth_set _ _ _ _ hi]
  unfold swI
  split
  · rename_i h; rw [if_pos h.symm]
  · rename_i h
    rw [if_neg (Ne.symm h)]
    split
    · rename_i h2; rw [if_pos h2.symm]
    · rename_i h2; rw [if_neg (Ne.symm h2)]
theorem swI_lt {i j t n : Nat} (hi : i < n) (hj : j < n) (ht : t < n) : swI i j t < n := by
  unfold swI; repeat' split
  all_goals omega
def rotI (a m b t : Nat) : Nat := if a ≤ t ∧ t < b then (if t < a + (b - m) then t + (m - a) else t - (b - m)) else t
theorem rotI_lt {a m b t n : Nat} (h1 : a ≤ m) (h2 : m ≤ b) (h3 : b ≤ n) (ht : t < n) : rotI a m b t < n := by
  unfold rotI; repeat' split
  all_goals omega
def swRI (p q n t : Nat) : Nat := if p ≤ t ∧ t < p + n then q + (t - p) else if q ≤ t ∧ t < q + n then p + (t - q) else t
theorem swR_pick (L : List Item) (p q : Nat) : ∀ n, p + n ≤ q → q + n ≤ L.length → swR p q n L = pick (swRI p q n) L
  | 0, _, _ => by
    rw [swR, pick_congr L (h := fun t => t) (fun t _ => by unfold swRI; rw [if_neg (by omega), if_neg (by omega)]), pick_id]
  | n + 1, h1, h2 => by
    rw [swR, swR_pick L p q n (by omega) (by omega), sw_pick _ (by rw [pick_length]; omega) (by rw [pick_length]; omega), pick_pick _ _ _ (fun t ht => swI_lt (by omega) (by omega) ht)]
    refine pick_congr L fun t ht => ?_
    unfold swI swRI
    repeat' split
    all_goals omega
/-- The stretches [a, m) and [m, b) change their places. -/
def rot (a m b : Nat) (L : List Item) : List Item := pick (rotI a m b) L
theorem rot_length (a m b : Nat) (L : List Item) : (rot a m b L).length = L.length := pick_length _ _
theorem nth_rot (a m b : Nat) (L : List Item) {t : Nat} (ht : t < L.length) : nth (rot a m b L) t = nth L (rotI a m b t) := nth_pick _ _ ht
theorem swR_rot (L : List Item) (m i : Nat) (hi : i ≤ m) (h : m + i ≤ L.length) : swR (m - i) m i L = rot (m - i) m (m + i) L := by
  rw [swR_pick L _ _ _ (by omega) (by omega)]
  refine pick_congr L fun t ht => ?_
  unfold swRI rotI
  repeat' split
  all_goals omega
theorem rot_more (L : List Item) (m i j : Nat) (hj : 1 ≤ j) (hij : j < i) (hi : i ≤ m) (h : m + j ≤ L.length) : rot (m - (i - j)) m (m + j) (swR (m - i) m j L) = rot (m - i) m (m + j) L := by
  rw [swR_pick L _ _ _ (by omega) (by omega), rot, pick_pick _ _ _ (fun t ht => rotI_lt (by omega) (by omega) (by omega) ht)]
  refine pick_congr L fun t ht => ?_
  unfold swRI rotI
  repeat' split
  all_goals omega
theorem rot_less (L : List Item) (m i j : Nat) (hi0 : 1 ≤ i) (hij : i < j) (hi : i ≤ m) (h : m + j ≤ L.length) : rot (m - i) m (m + (j - i)) (swR (m - i) (m + j - i) i L) = rot (m - i) m (m + j) L := by
  rw [swR_pick L _ _ _ (by omega) (by omega), rot, pick_pick _ _ _ (fun t ht => rotI_lt (by omega) (by omega) (by omega) ht)]
  refine pick_congr L fun t ht => ?_
  unfold swRI rotI
  repeat' split
  all_goals omega
theorem sw_rot (L : List Item) (j : Nat) (h : j + 1 < L.length) : sw L j (j + 1) = rot j (j + 1) (j + 2) L := by
  rw [sw_pick L (by omega) h]
  refine pick_congr L fun t ht => ?_
  unfold swI rotI
  repeat' split
  all_goals omega
theorem sw_comm (L : List Item) {i j : Nat} (hi : i < L.length) (hj : j < L.length) : sw L i j = sw L j i := by
  rw [sw_pick L hi hj, sw_pick L hj hi]
  refine pick_congr L fun t ht => ?_
  unfold swI
  repeat' split
  all_goals omega
theorem rot_up (L : List Item) (a k : Nat) (hak : a ≤ k) (h : k + 1 < L.length) : sw (rot a (a + 1) (k + 1) L) k (k + 1) = rot a (a + 1) (k + 2) L := by
  rw [sw_pick _ (by rw [rot_length]; omega) (by rw [rot_length]; omega), rot, pick_pick _ _ _ (fun t ht => swI_lt (by omega) (by omega) ht)]
  refine pick_congr L fun t ht => ?_
  unfold swI rotI
  repeat' split
  all_goals omega
theorem rot_down (L : List Item) (m k : Nat) (hk : 1 ≤ k) (hkm : k ≤ m) (h : m < L.length) : sw (rot k m (m + 1) L) k (k - 1) = rot (k - 1) m (m + 1) L := by
  rw [sw_pick _ (by rw [rot_length]; omega) (by rw [rot_length]; omega), rot, pick_pick _ _ _ (fun t ht => swI_lt (by omega) (by omega) ht)]
  refine pick_congr L fun t ht => ?_
  unfold swI rotI
  repeat' split
  all_goals omega
theorem rot_none (L : List Item) (a b : Nat) : rot a b b L = L := by
  rw [rot, pick_congr L (h := fun t => t) (fun t _ => by unfold rotI; (repeat' split) <;> omega), pick_id]
theorem rot_none' (L : List Item) (a b : Nat) : rot a a b L = L := by
  rw [rot, pick_congr L (h := fun t => t) (fun t _ => by unfold rotI; (repeat' split) <;> omega), pick_id]

/-! ### The order -/
theorem kc_eq (x y : Item) : kc x y = if x.cls < y.cls then -1 else if y.cls < x.cls then 1 else if x.tick < y.tick then -1 else if y.tick < x.tick then 1 else if x.id < y.id then -1 else if y.id < x.id then 1 else 0 := rfl
theorem kc_self (x : Item) : kc x x = 0 := by rw [kc_eq]; (repeat' split) <;> omega
theorem kc_zero {x y : Item} : kc x y = 0 ↔ x.cls = y.cls ∧ x.tick = y.tick ∧ x.id = y.id := by
  rw [kc_eq]; repeat' split
  all_goals omega
theorem kc_lt {x y : Item} : kc x y < 0 ↔ ¬ kc y x ≤ 0 := by
  rw [kc_eq, kc_eq]; repeat' split
  all_goals omega
theorem kc_trans {x y z : Item} (h1 : kc x y ≤ 0) (h2 : kc y z ≤ 0) : kc x z ≤ 0 := by
  rw [kc_eq] at *
  repeat' split
  all_goals (first | omega | (exfalso; revert h1 h2; repeat' split) <;> omega)
theorem kc_ltle {x y z : Item} (h1 : kc x y < 0) (h2 : kc y z ≤ 0) : kc x z < 0 := by
  rw [kc_lt] at *
  exact fun h => h1 (kc_trans h2 h)
theorem kc_lelt {x y z : Item} (h1 : kc x y ≤ 0) (h2 : kc y z < 0) : kc x z < 0 := by
  rw [kc_lt] at *
  exact fun h => h2 (kc_trans h h1)
theorem kc_le_of_lt {x y : Item} (h : kc x y < 0) : kc x y ≤ 0 := by omega
theorem kc_le_of_not {x y : Item} (h : ¬ kc x y < 0) : kc y x ≤ 0 := Decidable.byContradiction fun h1 => h (kc_lt.2 h1)
end Go.Proofs.Ytclfbjbbdfejkaa.Ord
