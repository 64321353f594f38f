/- The plain law of the order: the document's sort by insertion is the one row in order, each class as it was. -/
import Derived.Test.YtclfbjbbdfejkaaOI
namespace Go.Proofs.Ytclfbjbbdfejkaa.Ord
open Go.RowKit

/-- Where one is put among the first n. -/
def pos (x : Item) (out : List Item) : Nat → Nat
  | 0 => 0
  | n + 1 => if first x (nth out n) = true then pos x out n else n + 1
theorem pos_le (x : Item) (out : List Item) : ∀ n, pos x out n ≤ n
  | 0 => Nat.le_refl _
  | n + 1 => by
    unfold pos
    split
    · exact Nat.le_succ_of_le (pos_le x out n)
    · exact Nat.le_refl _
theorem pos_first (x : Item) (out : List Item) : ∀ n j, pos x out n ≤ j → j < n → first x (nth out j) = true
  | 0, j, _, h => by omega
  | n + 1, j, h1, h2 => by
    unfold pos at h1
    split at h1
    · rename_i hf
      by_cases e : j = n
      · subst e; exact hf
      · exact pos_first x out n j h1 (by omega)
    · omega
theorem pos_not (x : Item) (out : List Item) : ∀ n, 0 < pos x out n → first x (nth out (pos x out n - 1)) = false
  | 0, h => absurd h (Nat.lt_irrefl 0)
  | n + 1, h => by
    unfold pos at h ⊢
    split
    · rename_i hf
      rw [if_pos hf] at h
      exact pos_not x out n h
    · rename_i hf
      rw [Nat.add_sub_cancel]
      simpa using hf
/-- One is put in. -/
def ins (x : Item) (out : List Item) : List Item := out.take (pos x out out.length) ++ (x :: out.drop (pos x out out.length))
theorem ins_length (x : Item) (out : List Item) : (ins x out).length = out.length + 1 := by
  have := pos_le x out out.length
  simp [ins]; omega
theorem first_iff {x y : Item} : first x y = true ↔ kc x y < 0 := by unfold first; exact decide_eq_true_iff
theorem ins_sorted {x : Item} {out : List Item} (h : out.Pairwise fun x y => kc x y ≤ 0) : (ins x out).Pairwise fun x y => kc x y ≤ 0 := by
  obtain ⟨k, hk⟩ : ∃ k, k = pos x out out.length := ⟨_, rfl⟩
  have hkl : k ≤ out.length := hk ▸ pos_le x out out.length
  have hf : ∀ y ∈ out.drop k, kc x y ≤ 0 := fun y hy => by
    obtain ⟨j, hj, rfl⟩ := List.mem_iff_getElem.1 hy
    rw [List.length_drop] at hj
    have h1 := pos_first x out out.length (k + j) (by omega) (by omega)
    rw [nth_eq (by omega), first_iff] at h1
    rw [List.getElem_drop]
    omega
  have hn : ∀ y ∈ out.take k, kc y x ≤ 0 := fun y hy => by
    obtain ⟨j, hj, rfl⟩ := List.mem_iff_getElem.1 hy
    rw [List.length_take] at hj
    have h1 := pos_not x out out.length (by omega)
    rw [← hk, nth_eq (by omega)] at h1
    have h2 : ¬ kc x out[k - 1] < 0 := fun e => by rw [first_iff.2 e] at h1; cases h1
    have h3 := kc_le_of_not h2
    rw [List.getElem_take]
    by_cases e : j = k - 1
    · subst e; exact h3
    · exact kc_trans (List.pairwise_iff_getElem.1 h j (k - 1) (by omega) (by omega) (by omega)) h3
  unfold ins
  rw [← hk, List.pairwise_append]
  have hs := h
  rw [← List.take_append_drop k out, List.pairwise_append] at hs
  refine ⟨hs.1, List.pairwise_cons.2 ⟨hf, hs.2.1⟩, fun a ha b hb => ?_⟩
  rcases List.mem_cons.1 hb with rfl | hb
  · exact hn a ha
  · exact hs.2.2 a ha b hb
theorem cf_cons (k x : Item) (L : List Item) : cf k (x :: L) = cf k [x] ++ cf k L := by rw [show x :: L = [x] ++ L from rfl, cf_append]
theorem ins_class {x : Item} {out : List Item} (c : Item) : cf c (ins x out) = cf c out ++ cf c [x] := by
  obtain ⟨k, hk⟩ : ∃ k, k = pos x out out.length := ⟨_, rfl⟩
  have hkl : k ≤ out.length := hk ▸ pos_le x out out.length
  unfold ins
  rw [← hk]
  by_cases hx : kc x c = 0
  · have hd : cf c (out.drop k) = [] := by
      refine List.filter_eq_nil_iff.2 fun y hy => ?_
      obtain ⟨j, hj, rfl⟩ := List.mem_iff_getElem.1 hy
      rw [List.length_drop] at hj
      have h1 := pos_first x out out.length (k + j) (by omega) (by omega)
      rw [nth_eq (by omega), first_iff] at h1
      rw [List.getElem_drop, decide_eq_true_iff]
      intro e
      obtain ⟨a1, a2, a3⟩ := kc_zero.1 hx
      obtain ⟨b1, b2, b3⟩ := kc_zero.1 e
      have : kc x out[k + j] = 0 := kc_zero.2 ⟨a1.trans b1.symm, a2.trans b2.symm, a3.trans b3.symm⟩
      omega
    have ho : cf c out = cf c (out.take k) := by
      conv => lhs; rw [← List.take_append_drop k out, cf_append, hd, List.append_nil]
    rw [cf_append, cf_cons, hd, List.append_nil, ho]
  · have hx1 : cf c [x] = [] := List.filter_eq_nil_iff.2 fun y hy => by
      obtain rfl := List.mem_singleton.1 hy
      simpa using hx
    rw [cf_append, cf_cons, hx1, List.nil_append, List.append_nil, ← cf_append, List.take_append_drop]
/-- All that go, in order. -/
def srt (L : List Item) : List Item := L.foldl (fun out x => if stays x = true then out else ins x out) []
theorem srt_snoc (L : List Item) (x : Item) : srt (L ++ [x]) = if stays x = true then srt L else ins x (srt L) := by simp [srt]
theorem snoc_ind {P : List Item → Prop} (h0 : P []) (h1 : ∀ L x, P L → P (L ++ [x])) (L : List Item) : P L := by
  rw [← List.reverse_reverse L]
  induction L.reverse with
  | nil => exact h0
  | cons x l ih => rw [List.reverse_cons]; exact h1 _ _ ih
theorem srt_law (L : List Item) : (srt L).Pairwise (fun x y => kc x y ≤ 0) ∧ St (L.filter goes) (srt L) ∧ (srt L).length = (L.filter goes).length := by
  induction L using snoc_ind with
  | h0 => exact ⟨List.Pairwise.nil, fun _ => rfl, rfl⟩
  | h1 L x ih =>
    obtain ⟨h1, h2, h3⟩ := ih
    rw [srt_snoc, filter_snoc]
    cases hs : stays x with
    | true => exact ⟨h1, h2, h3⟩
    | false =>
      refine ⟨ins_sorted h1, fun c => ?_, ?_⟩
      · rw [if_neg (by simp), if_neg (by simp), ins_class, cf_append, h2 c]
      · rw [if_neg (by simp), if_neg (by simp), ins_length, h3]; simp
/-- What is in order, each class as it was, is it. -/
theorem srt_eq {L R : List Item} {n : Nat} (ht : Tr 0 n (L.filter goes) R) (hs : Srt 0 n R) (hl : R.length = n) : R = srt L := by
  obtain ⟨h1, h2, h3⟩ := srt_law L
  refine st_unique R (srt L) (fun c => ?_) (srt_pairwise (by rw [hl]; exact hs)) h1
  rw [h2 c]
  exact (ht.4 c).symm
end Go.Proofs.Ytclfbjbbdfejkaa.Ord
