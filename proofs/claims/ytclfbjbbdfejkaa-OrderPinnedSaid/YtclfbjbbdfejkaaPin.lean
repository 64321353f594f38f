/- The plain law of OrderPinned: one more that is pinned never goes, and no fewer others go. -/
import Derived.Test.YtclfbjbbdfejkaaOW
namespace Go.Proofs.Ytclfbjbbdfejkaa.Ord
open Go.RowKit

def pinIt (x : Item) : Item := { x with pin := true }
theorem goes_pin (x : Item) : goes (pinIt x) = false := by unfold goes stays pinIt; simp
theorem right_pin (x : Item) : right (pinIt x) = right x := rfl
theorem goingL_mem : ∀ (S : List Item) (o : Int) (i : Int), i ∈ goingL S o → ∃ x ∈ S, x.id = i
  | [], _, _, h => absurd h (by simp [goingL])
  | x :: r, o, i, h => by
    unfold goingL at h
    split at h
    · cases h
    · rcases List.mem_cons.1 h with h1 | h1
      · exact ⟨x, List.mem_cons_self .., h1.symm⟩
      · obtain ⟨y, hy, e⟩ := goingL_mem r _ i h1
        exact ⟨y, List.mem_cons_of_mem _ hy, e⟩
theorem going_fewer (z : Int) : ∀ (S : List Item) (o o' : Int), (∀ x ∈ S, 0 ≤ x.cost) → o ≤ o' → ((goingL S o).filter fun i => i != z).length ≤ (goingL (S.filter fun x => x.id != z) o').length
  | [], _, _, _, _ => by simp [goingL]
  | x :: r, o, o', hc, h => by
    have hx := hc x (List.mem_cons_self ..)
    have hr : ∀ y ∈ r, 0 ≤ y.cost := fun y hy => hc y (List.mem_cons_of_mem _ hy)
    by_cases h0 : o ≤ 0
    · rw [goingL_none _ h0]; simp
    · have e : goingL (x :: r) o = x.id :: goingL r (o - x.cost) := by
        show (if o ≤ 0 then [] else _) = _
        rw [if_neg h0]
      rw [e]
      by_cases hz : x.id = z
      · rw [List.filter_cons_of_neg (by simp [hz]), List.filter_cons_of_neg (by simp [hz])]
        exact going_fewer z r _ _ hr (by omega)
      · rw [List.filter_cons_of_pos (by simp [hz]), List.filter_cons_of_pos (by simp [hz])]
        have e2 : goingL (x :: r.filter fun x => x.id != z) o' = x.id :: goingL (r.filter fun x => x.id != z) (o' - x.cost) := by
          show (if o' ≤ 0 then [] else _) = _
          rw [if_neg (by omega)]
        rw [e2, List.length_cons, List.length_cons]
        have := going_fewer z r (o - x.cost) (o' - x.cost) hr (by omega)
        omega
theorem costA_app (l m : List Item) : costA (l ++ m) = costA l + costA m := by
  induction l with
  | nil => simp [costA]
  | cons x l ih => simp only [List.cons_append, costA, ih]; omega
theorem costP_app (l m : List Item) : costP (l ++ m) = costP l + costP m := by
  induction l with
  | nil => simp [costP]
  | cons x l ih => simp only [List.cons_append, costP, ih]; omega
section
variable {M : List Item} {k : Nat}
theorem split_at (hk : k < M.length) : M = M.take k ++ (nth M k :: M.drop (k + 1)) := by
  rw [nth_eq hk, ← List.drop_eq_getElem_cons hk, List.take_append_drop]
theorem set_at (hk : k < M.length) (y : Item) : M.set k y = M.take k ++ (y :: M.drop (k + 1)) := by
  rw [List.set_eq_take_append_cons_drop, if_pos hk]
theorem pin_costA (hk : k < M.length) : costA (M.set k (pinIt (nth M k))) = costA M := by
  rw [set_at hk]
  conv => rhs; rw [split_at hk]
  rw [costA_app, costA_app]
  simp only [costA, right_pin]
  rfl
theorem costP_pin (x : Item) (l : List Item) : costP (pinIt x :: l) = (if right x = true then x.cost else 0) + costP l := by
  rw [show costP (pinIt x :: l) = (if right (pinIt x) = true ∧ (pinIt x).pin = true then (pinIt x).cost else 0) + costP l from rfl]
  by_cases hr : right x = true
  · rw [if_pos ⟨show right (pinIt x) = true from hr, rfl⟩, if_pos hr]; rfl
  · rw [if_neg (fun e => hr (show right x = true from e.1)), if_neg hr]
theorem pin_costP (hk : k < M.length) : costP M ≤ costP (M.set k (pinIt (nth M k))) := by
  rw [set_at hk]
  conv => lhs; rw [split_at hk]
  rw [costP_app, costP_app, costP_pin]
  show _ + ((if right (nth M k) = true ∧ (nth M k).pin = true then (nth M k).cost else 0) + _) ≤ _
  by_cases hr : right (nth M k) = true
  · have := right_cost hr
    rw [if_pos hr]
    split <;> omega
  · rw [if_neg hr, if_neg (fun e => hr e.1)]
    omega
theorem pin_goes (hk : k < M.length) (hd : ∀ i, i < M.length → i ≠ k → (nth M i).id ≠ (nth M k).id) : (M.set k (pinIt (nth M k))).filter goes = (M.filter goes).filter fun x => x.id != (nth M k).id := by
  have h1 : ∀ x ∈ M.take k, (x.id != (nth M k).id) = true := fun x hx => by
    obtain ⟨j, hj, rfl⟩ := List.getElem_of_mem hx
    rw [List.length_take] at hj
    rw [List.getElem_take, ← nth_eq (by omega)]
    simpa using hd j (by omega) (by omega)
  have h2 : ∀ x ∈ M.drop (k + 1), (x.id != (nth M k).id) = true := fun x hx => by
    obtain ⟨j, hj, rfl⟩ := List.getElem_of_mem hx
    rw [List.length_drop] at hj
    rw [List.getElem_drop, ← nth_eq (by omega)]
    simpa using hd (k + 1 + j) (by omega) (by omega)
  obtain ⟨z, hz⟩ : ∃ z, z = (nth M k).id := ⟨_, rfl⟩
  rw [← hz] at h1 h2 ⊢
  rw [set_at hk]
  conv => rhs; rw [split_at hk]
  rw [List.filter_filter, List.filter_append, List.filter_append, List.filter_cons_of_neg (by rw [goes_pin]; decide), List.filter_cons_of_neg (by rw [← hz]; simp)]
  congr 1
  · exact List.filter_congr fun x hx => by rw [h1 x hx]; rfl
  · exact List.filter_congr fun x hx => by rw [h2 x hx]; rfl
theorem cf_filter (c : Item) (q : Item → Bool) (L : List Item) : cf c (L.filter q) = (cf c L).filter q := by
  unfold cf
  rw [List.filter_filter, List.filter_filter]
  exact List.filter_congr fun x _ => Bool.and_comm _ _
theorem pin_srt (hk : k < M.length) (hd : ∀ i, i < M.length → i ≠ k → (nth M i).id ≠ (nth M k).id) : srt (M.set k (pinIt (nth M k))) = (srt M).filter fun x => x.id != (nth M k).id := by
  obtain ⟨a1, a2, _⟩ := srt_law (M.set k (pinIt (nth M k)))
  obtain ⟨b1, b2, _⟩ := srt_law M
  refine (st_unique _ _ (fun c => ?_) (b1.filter _) a1).symm
  rw [a2 c, pin_goes hk hd, cf_filter c _ (M.filter goes), cf_filter c _ (srt M), b2 c]
end
/-- Each has its own number. -/
theorem num_own (L : List Item) {k : Nat} (hk : k < (numL 0 L).length) : ∀ i, i < (numL 0 L).length → i ≠ k → (nth (numL 0 L) i).id ≠ (nth (numL 0 L) k).id := by
  intro i hi hne
  rw [numL_length] at hi hk
  rw [numL_get L 0 i hi, numL_get L 0 k hk]
  show ((0 + i + 1 : Nat) : Int) ≠ ((0 + k + 1 : Nat) : Int)
  omega
/-- OrderPinned's law. -/
theorem pin_law (L : List Item) (a b : Int) {k : Nat} (hk : k < (numL 0 L).length) :
    (∀ i ∈ vicL ((numL 0 L).set k (pinIt (nth (numL 0 L) k))) a b, i ≠ (nth (numL 0 L) k).id) ∧
    (vicOk ((numL 0 L).set k (pinIt (nth (numL 0 L) k))) a b = true → ((vicL (numL 0 L) a b).filter fun i => i != (nth (numL 0 L) k).id).length ≤ (vicL ((numL 0 L).set k (pinIt (nth (numL 0 L) k))) a b).length) := by
  obtain ⟨M, hM⟩ : ∃ M, M = numL 0 L := ⟨_, rfl⟩
  have hd := num_own L hk
  rw [← hM] at hk hd ⊢
  refine ⟨fun i hi => ?_, fun hok => ?_⟩
  · unfold vicL at hi
    split at hi
    · obtain ⟨x, hx, rfl⟩ := goingL_mem _ _ _ hi
      rw [pin_srt hk hd, List.mem_filter] at hx
      simpa using hx.2
    · cases hi
  · have hok1 : vicOk M a b = true := by
      have := pin_costP hk
      unfold vicOk at hok ⊢
      simp only [Bool.and_eq_true, decide_eq_true_eq] at hok ⊢
      exact ⟨hok.1, hok.2.1, by omega⟩
    unfold vicL
    rw [if_pos hok, if_pos hok1, pin_costA hk, pin_srt hk hd]
    exact going_fewer _ _ _ _ (fun x hx => (right_cost (srt_right hx).1).1) (Int.le_refl _)
end Go.Proofs.Ytclfbjbbdfejkaa.Ord
