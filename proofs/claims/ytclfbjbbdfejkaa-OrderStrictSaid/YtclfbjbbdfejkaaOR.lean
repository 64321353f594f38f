/- The plain law of a merge in place; an act behind a region. -/
import Derived.Test.YtclfbjbbdfejkaaO9
namespace Go.Proofs.Ytclfbjbbdfejkaa.Flow
/-- The slots of ds set anew. -/
def sets (a : Act) : List Nat → Array Value → Array Value
  | [], t => t
  | d :: ds, t => (sets a ds t).setIfInBounds d (a.tmps.getD d undef)
theorem sets_size (a : Act) (t : Array Value) : ∀ ds, (sets a ds t).size = t.size
  | [] => rfl
  | d :: ds => by rw [sets, Array.size_setIfInBounds, sets_size a t ds]
theorem sets_get (a : Act) (t : Array Value) (i : Nat) (hi : i < t.size) : ∀ ds : List Nat, (sets a ds t)[i]? = if i ∈ ds then some (a.tmps.getD i undef) else t[i]?
  | [] => by simp [sets]
  | d :: ds => by
    rw [sets]
    by_cases h : d = i
    · subst h
      rw [Array.getElem?_setIfInBounds_self, if_pos (by rw [sets_size]; exact hi), if_pos List.mem_cons_self]
    · rw [Array.getElem?_setIfInBounds_ne h, sets_get a t i hi ds]
      by_cases h2 : i ∈ ds
      · rw [if_pos h2, if_pos (List.mem_cons_of_mem _ h2)]
      · rw [if_neg h2, if_neg (by simp [h2, Ne.symm h])]
theorem act_set {ops : Array Oper} {a a0 : Act} (hold : ∀ t, (∀ (j : Nat) (o : Oper), ops[j]? = some o → o.dst ≠ some t) → a.tmps.getD t undef = a0.tmps.getD t undef) (hs : a.tmps.size = a0.tmps.size) (hd : a.defers = a0.defers) (ds : List Nat)
    (hc : (ops.toList.all fun o => match o.dst with | some d => ds.contains d | none => true) = true) : a = { tmps := sets a ds a0.tmps, defers := a0.defers } := by
  have key : a.tmps = sets a ds a0.tmps := by
    apply Array.ext_getElem?
    intro i
    by_cases hi : i < a0.tmps.size
    · rw [sets_get a _ i hi]
      by_cases h : i ∈ ds
      · rw [if_pos h, Array.getD_eq_getD_getElem?, Array.getElem?_eq_getElem (by omega)]; rfl
      · rw [if_neg h]
        have h1 := hold i fun j o hj hoi => by
          have hm : o ∈ ops.toList := by
            have hj2 : ops.toList[j]? = some o := by simpa using hj
            exact List.mem_of_getElem? hj2
          have := (List.all_eq_true.1 hc) o hm
          rw [hoi] at this
          exact h (by simpa using this)
        rw [Array.getD_eq_getD_getElem?, Array.getD_eq_getD_getElem?, Array.getElem?_eq_getElem (by omega), Array.getElem?_eq_getElem hi] at h1
        rw [Array.getElem?_eq_getElem (by omega), Array.getElem?_eq_getElem hi]
        exact congrArg some h1
    · rw [Array.getElem?_eq_none (by omega), Array.getElem?_eq_none (by rw [sets_size]; omega)]
  obtain ⟨t, d⟩ := a
  simp only at hd
  subst hd
  exact congrArg (fun x => ({ tmps := x, defers := _ } : Act)) key
end Go.Proofs.Ytclfbjbbdfejkaa.Flow
namespace Go.Proofs.Ytclfbjbbdfejkaa.Ord
theorem srt_rot_up {a b i : Nat} {L : List Item} (hs : Srt (a + 1) b L) (h1 : a + 1 ≤ i) (h2 : i ≤ b) (h3 : b ≤ L.length) (hl : i = a + 1 ∨ kc (nth L (i - 1)) (nth L a) < 0) (hr : i = b ∨ ¬ kc (nth L i) (nth L a) < 0) :
    Tr a b L (rot a (a + 1) i L) ∧ Srt a b (rot a (a + 1) i L) := by
  have hlt : ∀ t, a + 1 ≤ t → t < i → kc (nth L t) (nth L a) < 0 := fun t t1 t2 => by
    rcases hl with rfl | hl
    · omega
    · exact kc_lelt (hs.le t1 (by omega) (by omega)) hl
  have hge : ∀ t, i ≤ t → t < b → kc (nth L a) (nth L t) ≤ 0 := fun t t1 t2 => by
    rcases hr with rfl | hr
    · omega
    · exact kc_trans (kc_le_of_not hr) (hs.le h1 t1 t2)
  refine ⟨(rot_tr (by omega) h1 (by omega) fun x y x1 x2 y1 y2 => ?_).mono (Nat.le_refl _) h2, fun p q p1 pq q2 => ?_⟩
  · obtain rfl : x = a := by omega
    exact hlt y y1 y2
  · have e : ∀ t, a ≤ t → t < b → nth (rot a (a + 1) i L) t = if t + 1 < i then nth L (t + 1) else if t + 1 = i then nth L a else nth L t := fun t t1 t2 => by
      rw [nth_rot _ _ _ _ (by omega)]
      have : rotI a (a + 1) i t = if t + 1 < i then t + 1 else if t + 1 = i then a else t := by
        unfold rotI; (repeat' split) <;> omega
      rw [this]
      split
      · rfl
      · split <;> rfl
    have ep := e p p1 (by omega)
    have eq := e q (by omega) q2
    by_cases k1 : p + 1 < i
    · rw [if_pos k1] at ep
      by_cases k2 : q + 1 < i
      · rw [if_pos k2] at eq; rw [ep, eq]; exact hs.le (by omega) (by omega) (by omega)
      · rw [if_neg k2] at eq
        by_cases k3 : q + 1 = i
        · rw [if_pos k3] at eq; rw [ep, eq]; exact kc_le_of_lt (hlt _ (by omega) (by omega))
        · rw [if_neg k3] at eq; rw [ep, eq]; exact hs.le (by omega) (by omega) (by omega)
    · rw [if_neg k1] at ep
      rw [if_neg (by omega), if_neg (by omega)] at eq
      by_cases k3 : p + 1 = i
      · rw [if_pos k3] at ep; rw [ep, eq]; exact hge _ (by omega) (by omega)
      · rw [if_neg k3] at ep; rw [ep, eq]; exact hs.le (by omega) (by omega) (by omega)
theorem srt_rot_down {a m i : Nat} {L : List Item} (hs : Srt a m L) (h1 : a ≤ i) (h2 : i ≤ m) (h3 : m < L.length) (hl : i = a ∨ ¬ kc (nth L m) (nth L (i - 1)) < 0) (hr : i = m ∨ kc (nth L m) (nth L i) < 0) :
    Tr a (m + 1) L (rot i m (m + 1) L) ∧ Srt a (m + 1) (rot i m (m + 1) L) := by
  have hle : ∀ t, a ≤ t → t < i → kc (nth L t) (nth L m) ≤ 0 := fun t t1 t2 => by
    rcases hl with rfl | hl
    · omega
    · exact kc_trans (hs.le t1 (by omega) (by omega)) (kc_le_of_not hl)
  have hgt : ∀ t, i ≤ t → t < m → kc (nth L m) (nth L t) < 0 := fun t t1 t2 => by
    rcases hr with rfl | hr
    · omega
    · exact kc_ltle hr (hs.le h1 t1 t2)
  refine ⟨(rot_tr h2 (by omega) (by omega) fun x y x1 x2 y1 y2 => ?_).mono h1 (Nat.le_refl _), fun p q p1 pq q2 => ?_⟩
  · obtain rfl : y = m := by omega
    exact hgt x x1 x2
  · have e : ∀ t, a ≤ t → t < m + 1 → nth (rot i m (m + 1) L) t = if t < i then nth L t else if t = i then nth L m else nth L (t - 1) := fun t t1 t2 => by
      rw [nth_rot _ _ _ _ (by omega)]
      have : rotI i m (m + 1) t = if t < i then t else if t = i then m else t - 1 := by
        unfold rotI; (repeat' split) <;> omega
      rw [this]
      split
      · rfl
      · split <;> rfl
    have ep := e p p1 (by omega)
    have eq := e q (by omega) q2
    by_cases k1 : p < i
    · rw [if_pos k1] at ep
      by_cases k2 : q < i
      · rw [if_pos k2] at eq; rw [ep, eq]; exact hs.le (by omega) (by omega) (by omega)
      · rw [if_neg k2] at eq
        by_cases k3 : q = i
        · rw [if_pos k3] at eq; rw [ep, eq]; exact hle _ (by omega) (by omega)
        · rw [if_neg k3] at eq; rw [ep, eq]; exact hs.le (by omega) (by omega) (by omega)
    · rw [if_neg k1] at ep
      rw [if_neg (by omega), if_neg (by omega)] at eq
      by_cases k3 : p = i
      · rw [if_pos k3] at ep; rw [ep, eq]; exact kc_le_of_lt (hgt _ (by omega) (by omega))
      · rw [if_neg k3] at ep; rw [ep, eq]; exact hs.le (by omega) (by omega) (by omega)
/-- What the merge's search has found: where the two halves part. -/
structure Part (a m b s : Nat) (L : List Item) : Prop where
  lo : (if (a + b) / 2 < m then (a + b) / 2 + m - b else a) ≤ s
  up : s ≤ (if (a + b) / 2 < m then (a + b) / 2 else m)
  left : s = (if (a + b) / 2 < m then (a + b) / 2 + m - b else a) ∨ ¬ kc (nth L ((a + b) / 2 + m - s)) (nth L (s - 1)) < 0
  right : s = (if (a + b) / 2 < m then (a + b) / 2 else m) ∨ kc (nth L ((a + b) / 2 + m - 1 - s)) (nth L s) < 0
theorem Part.bounds {a m b s : Nat} {L : List Item} (h : Part a m b s L) (h1 : a < m) (h2 : m < b) : a ≤ s ∧ s ≤ (a + b) / 2 ∧ s ≤ m ∧ m ≤ (a + b) / 2 + m - s ∧ (a + b) / 2 + m - s ≤ b ∧ a < (a + b) / 2 ∧ (a + b) / 2 < b := by
  have h3 := h.lo
  have h4 := h.up
  split at h3 <;> split at h4 <;> omega
/-- Behind the turn: four stretches in order, and the first two ahead of the others. -/
theorem part_law {a m b s e d : Nat} {L : List Item} (h : Part a m b s L) (h1 : a < m) (h2 : m < b) (h3 : b ≤ L.length) (hl : Srt a m L) (hr : Srt m b L) (hd : d = (a + b) / 2) (he : e = d + m - s) :
    Tr a b L (rot s m e L) ∧ Srt a s (rot s m e L) ∧ Srt s d (rot s m e L) ∧ Srt d e (rot s m e L) ∧ Srt e b (rot s m e L) ∧ ∀ x y, a ≤ x → x < d → d ≤ y → y < b → kc (nth (rot s m e L) x) (nth (rot s m e L) y) ≤ 0 := by
  obtain ⟨b1, b2, b3, b4, b5, b6, b7⟩ := h.bounds h1 h2
  have hL := h.left
  have hR := h.right
  rw [← hd] at hL hR b2 b4 b5 b6 b7
  rw [← he] at hL b4 b5
  have c3 : ∀ x y, s ≤ x → x < m → m ≤ y → y < e → kc (nth L y) (nth L x) < 0 := fun x y x1 x2 y1 y2 => by
    rcases hR with hR | hR
    · exfalso; split at hR <;> omega
    · rw [show d + m - 1 - s = e - 1 by omega] at hR
      exact kc_ltle (kc_lelt (hr.le y1 (by omega) (by omega)) hR) (hl.le b1 x1 x2)
  have c2 : ∀ x y, a ≤ x → x < s → e ≤ y → y < b → kc (nth L x) (nth L y) ≤ 0 := fun x y x1 x2 y1 y2 => by
    rcases hL with hL | hL
    · exfalso; split at hL <;> omega
    · exact kc_trans (hl.le x1 (show x ≤ s - 1 by omega) (by omega)) (kc_trans (kc_le_of_not hL) (hr.le b4 y1 y2))
  have g1 : ∀ t, a ≤ t → t < s → nth (rot s m e L) t = nth L t := fun t t1 t2 => by rw [nth_rot _ _ _ _ (by omega)]; unfold rotI; rw [if_neg (by omega)]
  have g2 : ∀ t, s ≤ t → t < d → nth (rot s m e L) t = nth L (t + (m - s)) := fun t t1 t2 => by rw [nth_rot _ _ _ _ (by omega)]; unfold rotI; rw [if_pos (by omega), if_pos (by omega)]
  have g3 : ∀ t, d ≤ t → t < e → nth (rot s m e L) t = nth L (t - (e - m)) := fun t t1 t2 => by rw [nth_rot _ _ _ _ (by omega)]; unfold rotI; rw [if_pos (by omega), if_neg (by omega)]
  have g4 : ∀ t, e ≤ t → t < b → nth (rot s m e L) t = nth L t := fun t t1 t2 => by rw [nth_rot _ _ _ _ (by omega)]; unfold rotI; rw [if_neg (by omega)]
  refine ⟨(rot_tr b3 b4 (by omega) c3).mono b1 b5, fun i j i1 ij j2 => ?_, fun i j i1 ij j2 => ?_, fun i j i1 ij j2 => ?_, fun i j i1 ij j2 => ?_, fun x y x1 x2 y1 y2 => ?_⟩
  · rw [g1 i i1 (by omega), g1 j (by omega) j2]; exact hl i j i1 ij (by omega)
  · rw [g2 i i1 (by omega), g2 j (by omega) j2]; exact hr _ _ (by omega) (by omega) (by omega)
  · rw [g3 i i1 (by omega), g3 j (by omega) j2]; exact hl _ _ (by omega) (by omega) (by omega)
  · rw [g4 i i1 (by omega), g4 j (by omega) j2]; exact hr i j (by omega) ij j2
  · by_cases hx : x < s <;> by_cases hy : y < e
    · rw [g1 x x1 hx, g3 y y1 hy]; exact hl.le x1 (by omega) (by omega)
    · rw [g1 x x1 hx, g4 y (by omega) y2]; exact c2 x y x1 hx (by omega) y2
    · rw [g2 x (by omega) x2, g3 y y1 hy]; exact kc_le_of_lt (c3 _ _ (by omega) (by omega) (by omega) (by omega))
    · rw [g2 x (by omega) x2, g4 y (by omega) y2]; exact hr.le (by omega) (by omega) y2
/-- The two halves are merged, each by itself. -/
theorem halves {a d b : Nat} {L M R : List Item} (hb : b ≤ L.length) (hc : ∀ x y, a ≤ x → x < d → d ≤ y → y < b → kc (nth L x) (nth L y) ≤ 0) (h1 : Tr a d L M) (s1 : Srt a d M) (h2 : Tr d b M R) (s2 : Srt d b R) : Srt a b R := by
  refine srt_join (m := d) (srt_keep s1 fun t t1 t2 => ?_) s2 fun x y x1 x2 y1 y2 => ?_
  · by_cases h : t < M.length
    · exact h2.out t h (by omega)
    · unfold nth; rw [List.getD_eq_getElem?_getD, List.getD_eq_getElem?_getD, List.getElem?_eq_none (by rw [h2.len]; omega), List.getElem?_eq_none (by omega)]
  · have hl1 := h1.len
    have e1 : ∃ x', a ≤ x' ∧ x' < d ∧ nth R x = nth L x' := by
      rw [h2.out x (by omega) (by omega)]
      obtain ⟨s, q1, q2, _, e⟩ := h1.inn x x1 x2 (by omega)
      exact ⟨s, q1, q2, e⟩
    have e2 : ∃ y', d ≤ y' ∧ y' < b ∧ nth R y = nth L y' := by
      obtain ⟨s, q1, q2, q3, e⟩ := h2.inn y y1 y2 (by omega)
      exact ⟨s, q1, q2, by rw [e, h1.out s (by omega) (by omega)]⟩
    obtain ⟨x', q1, q2, e1⟩ := e1
    obtain ⟨y', q3, q4, e2⟩ := e2
    rw [e1, e2]
    exact hc x' y' q1 q2 q3 q4
end Go.Proofs.Ytclfbjbbdfejkaa.Ord
