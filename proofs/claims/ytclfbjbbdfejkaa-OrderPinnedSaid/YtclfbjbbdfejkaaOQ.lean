/- The plain law of a stable sort, second part: turned class by class as they were, in order: then it is one row alone. -/
import Derived.Test.YtclfbjbbdfejkaaOP
namespace Go.Proofs.Ytclfbjbbdfejkaa.Ord

/-- Those of one class, in the row's order. -/
def cf (k : Item) (L : List Item) : List Item := L.filter fun x => decide (kc x k = 0)
def St (L R : List Item) : Prop := ∀ k, cf k R = cf k L
theorem cf_append (k : Item) (L M : List Item) : cf k (L ++ M) = cf k L ++ cf k M := List.filter_append ..
theorem cf_swap {X Y : List Item} (h : ∀ x ∈ X, ∀ y ∈ Y, kc y x < 0) (k : Item) : cf k (X ++ Y) = cf k (Y ++ X) := by
  rw [cf_append, cf_append]
  by_cases hx : ∃ x ∈ X, kc x k = 0
  · obtain ⟨x, h1, h2⟩ := hx
    have : cf k Y = [] := by
      unfold cf
      rw [List.filter_eq_nil_iff]
      intro y hy h3
      have h3 : kc y k = 0 := by simpa using h3
      have h4 := h x h1 y hy
      obtain ⟨e1, e2, e3⟩ := kc_zero.1 h2
      obtain ⟨e4, e5, e6⟩ := kc_zero.1 h3
      have : kc y x = 0 := kc_zero.2 ⟨by omega, by omega, by omega⟩
      omega
    rw [this]; simp
  · have : cf k X = [] := by
      unfold cf
      rw [List.filter_eq_nil_iff]
      intro x h1 h2
      exact hx ⟨x, h1, by simpa using h2⟩
    rw [this]; simp
theorem rot_list (a m b : Nat) (L : List Item) (h1 : a ≤ m) (h2 : m ≤ b) (h3 : b ≤ L.length) : rot a m b L = L.take a ++ (((L.drop m).take (b - m) ++ (L.drop a).take (m - a)) ++ L.drop b) := by
  apply List.ext_getElem?
  intro t
  have e : (rot a m b L)[t]? = if t < L.length then L[rotI a m b t]? else none := by
    split
    · rename_i h
      rw [List.getElem?_eq_getElem (by rw [rot_length]; exact h), ← nth_eq (by rw [rot_length]; exact h), nth_rot _ _ _ _ h, List.getElem?_eq_getElem (rotI_lt h1 h2 h3 h), nth_eq (rotI_lt h1 h2 h3 h)]
    · rename_i h
      rw [List.getElem?_eq_none (by rw [rot_length]; omega)]
  rw [e]
  unfold rotI
  simp only [List.getElem?_append, List.length_take, List.length_drop, List.length_append, List.getElem?_take, List.getElem?_drop]
  repeat' split
  all_goals first
    | rfl
    | (exfalso; omega)
    | (congr 1; omega)
    | (rw [List.getElem?_eq_none (by omega)])
    | (symm; rw [List.getElem?_eq_none (by omega)])
theorem list_rot (a m b : Nat) (L : List Item) (h1 : a ≤ m) (h2 : m ≤ b) : L = L.take a ++ (((L.drop a).take (m - a) ++ (L.drop m).take (b - m)) ++ L.drop b) := by
  have e1 : (L.drop m).take (b - m) ++ L.drop b = L.drop m := by
    rw [show L.drop b = (L.drop m).drop (b - m) by rw [List.drop_drop]; congr 1; omega, List.take_append_drop]
  have e2 : (L.drop a).take (m - a) ++ L.drop m = L.drop a := by
    rw [show L.drop m = (L.drop a).drop (m - a) by rw [List.drop_drop]; congr 1; omega, List.take_append_drop]
  rw [List.append_assoc, e1, e2, List.take_append_drop]
/-- The stretch [a, b) is turned, class by class as it was; nothing else is. -/
structure Tr (a b : Nat) (L R : List Item) : Prop where
  len : R.length = L.length
  out : ∀ t, t < L.length → (t < a ∨ b ≤ t) → nth R t = nth L t
  inn : ∀ t, a ≤ t → t < b → t < L.length → ∃ s, a ≤ s ∧ s < b ∧ s < L.length ∧ nth R t = nth L s
  st : St L R
theorem Tr.refl (a b : Nat) (L : List Item) : Tr a b L L := ⟨rfl, fun _ _ _ => rfl, fun t h1 h2 h3 => ⟨t, h1, h2, h3, rfl⟩, fun _ => rfl⟩
theorem Tr.trans {a b : Nat} {L M R : List Item} (h : Tr a b L M) (k : Tr a b M R) : Tr a b L R :=
  ⟨k.len.trans h.len, fun t h1 h2 => (k.out t (by rw [h.len]; exact h1) h2).trans (h.out t h1 h2), fun t h1 h2 h3 => by
    obtain ⟨s, s1, s2, s3, e⟩ := k.inn t h1 h2 (by rw [h.len]; exact h3)
    obtain ⟨r, r1, r2, r3, e2⟩ := h.inn s s1 s2 (by rw [← h.len]; exact s3)
    exact ⟨r, r1, r2, r3, e.trans e2⟩, fun x => (k.st x).trans (h.st x)⟩
theorem Tr.mono {a b a' b' : Nat} {L R : List Item} (h : Tr a b L R) (h1 : a' ≤ a) (h2 : b ≤ b') : Tr a' b' L R :=
  ⟨h.len, fun t ht ho => h.out t ht (by omega), fun t ha hb hl => by
    by_cases hin : a ≤ t ∧ t < b
    · obtain ⟨s, s1, s2, s3, e⟩ := h.inn t hin.1 hin.2 hl
      exact ⟨s, by omega, by omega, s3, e⟩
    · exact ⟨t, ha, hb, hl, h.out t hl (by omega)⟩, h.st⟩
theorem mem_stretch {L : List Item} {a b : Nat} {x : Item} (h : x ∈ (L.drop a).take (b - a)) : ∃ t, a ≤ t ∧ t < b ∧ t < L.length ∧ x = nth L t := by
  obtain ⟨i, hi, rfl⟩ := List.getElem_of_mem h
  rw [List.length_take, List.length_drop] at hi
  refine ⟨a + i, by omega, by omega, by omega, ?_⟩
  rw [List.getElem_take, List.getElem_drop, nth_eq (by omega)]
theorem rot_tr {a m b : Nat} {L : List Item} (h1 : a ≤ m) (h2 : m ≤ b) (h3 : b ≤ L.length) (h : ∀ x y, a ≤ x → x < m → m ≤ y → y < b → kc (nth L y) (nth L x) < 0) : Tr a b L (rot a m b L) := by
  refine ⟨rot_length _ _ _ _, fun t ht ho => ?_, fun t ha hb hl => ?_, fun k => ?_⟩
  · rw [nth_rot _ _ _ _ ht]; unfold rotI; rw [if_neg (by omega)]
  · rw [nth_rot _ _ _ _ hl]
    refine ⟨rotI a m b t, ?_, ?_, rotI_lt h1 h2 h3 hl, rfl⟩
    all_goals (unfold rotI; (repeat' split) <;> omega)
  · rw [rot_list a m b L h1 h2 h3]
    conv => rhs; rw [list_rot a m b L h1 h2]
    rw [cf_append, cf_append, cf_append k (List.take a L), cf_append k _ (L.drop b)]
    congr 2
    symm
    refine cf_swap (fun x hx y hy => ?_) k
    obtain ⟨t, t1, t2, _, rfl⟩ := mem_stretch hx
    obtain ⟨s, s1, s2, _, rfl⟩ := mem_stretch hy
    exact h t s t1 t2 s1 s2
/-- The stretch [a, b) is in order. -/
def Srt (a b : Nat) (L : List Item) : Prop := ∀ i j, a ≤ i → i < j → j < b → kc (nth L i) (nth L j) ≤ 0
theorem Srt.sub {a b a' b' : Nat} {L : List Item} (h : Srt a b L) (h1 : a ≤ a') (h2 : b' ≤ b) : Srt a' b' L := fun i j hi hij hj => h i j (by omega) hij (by omega)
theorem Srt.le {a b : Nat} {L : List Item} (h : Srt a b L) {i j : Nat} (h1 : a ≤ i) (h2 : i ≤ j) (h3 : j < b) : kc (nth L i) (nth L j) ≤ 0 := by
  rcases Nat.lt_or_ge i j with h4 | h4
  · exact h i j h1 h4 h3
  · obtain rfl : i = j := by omega
    rw [kc_self]; exact Int.le_refl 0
/-- Two stretches in order, the one behind the other. -/
theorem srt_join {a m b : Nat} {L : List Item} (h1 : Srt a m L) (h2 : Srt m b L) (h : ∀ x y, a ≤ x → x < m → m ≤ y → y < b → kc (nth L x) (nth L y) ≤ 0) : Srt a b L := by
  intro i j hi hij hj
  by_cases hjm : j < m
  · exact h1 i j hi hij hjm
  · by_cases him : i < m
    · exact h i j hi him (by omega) hj
    · exact h2 i j (by omega) hij hj
theorem srt_keep {a b : Nat} {L R : List Item} (h : Srt a b L) (he : ∀ t, a ≤ t → t < b → nth R t = nth L t) : Srt a b R := fun i j hi hij hj => by rw [he i hi (by omega), he j (by omega) hj]; exact h i j hi hij hj
theorem cf_nil {k : Item} {L : List Item} (h : cf k L = []) : ∀ x ∈ L, kc x k ≠ 0 := by
  intro x hx h2
  have := (List.filter_eq_nil_iff.1 h) x hx
  simp [h2] at this
theorem cf_self (x : Item) (L : List Item) : cf x (x :: L) = x :: cf x L := by
  unfold cf
  rw [List.filter_cons_of_pos (by simp [kc_self])]
theorem mem_of_st {L R : List Item} (h : St L R) {x : Item} (hx : x ∈ R) : x ∈ L := by
  have h1 : x ∈ cf x R := List.mem_filter.2 ⟨hx, by simp [kc_self]⟩
  rw [h x] at h1
  exact (List.mem_filter.1 h1).1
theorem st_unique : ∀ (L R : List Item), St L R → L.Pairwise (fun x y => kc x y ≤ 0) → R.Pairwise (fun x y => kc x y ≤ 0) → L = R
  | [], R, h, _, _ => by
    cases R with
    | nil => rfl
    | cons y R => have := mem_of_st h List.mem_cons_self; cases this
  | x :: L, [], h, _, _ => by
    have h1 := h x
    rw [cf_self] at h1
    cases h1
  | x :: L, y :: R, h, p, q => by
    have hs : St (y :: R) (x :: L) := fun k => (h k).symm
    have hx : x ∈ y :: R := mem_of_st hs List.mem_cons_self
    have hy : y ∈ x :: L := mem_of_st h List.mem_cons_self
    have e1 : kc x y ≤ 0 := by
      rcases List.mem_cons.1 hy with rfl | h1
      · rw [kc_self]; exact Int.le_refl 0
      · exact List.rel_of_pairwise_cons p h1
    have e2 : kc y x ≤ 0 := by
      rcases List.mem_cons.1 hx with rfl | h1
      · rw [kc_self]; exact Int.le_refl 0
      · exact List.rel_of_pairwise_cons q h1
    have e3 : kc y x = 0 := by
      rcases Int.lt_or_le (kc y x) 0 with h1 | h1
      · exact absurd e1 (kc_lt.1 h1)
      · omega
    have h1 := h x
    rw [cf_self] at h1
    have e4 : cf x (y :: R) = y :: cf x R := by unfold cf; rw [List.filter_cons_of_pos (by simp [e3])]
    rw [e4] at h1
    obtain ⟨rfl, _⟩ := List.cons.inj h1
    rw [st_unique L R (fun k => by
      have h2 := h k
      unfold cf at h2 ⊢
      by_cases hk : kc y k = 0
      · rw [List.filter_cons_of_pos (by simp [hk]), List.filter_cons_of_pos (by simp [hk])] at h2
        exact (List.cons.inj h2).2
      · rwa [List.filter_cons_of_neg (by simp [hk]), List.filter_cons_of_neg (by simp [hk])] at h2) p.of_cons q.of_cons]
theorem srt_pairwise {L : List Item} (h : Srt 0 L.length L) : L.Pairwise (fun x y => kc x y ≤ 0) := by
  rw [List.pairwise_iff_getElem]
  intro i j hi hj hij
  have := h i j (Nat.zero_le _) hij hj
  rwa [nth_eq hi, nth_eq hj] at this
end Go.Proofs.Ytclfbjbbdfejkaa.Ord
