/- As FlowTail, where one more operation stores ahead of the last one; all others only read: some of them (the loads) ahead of that store. -/
import Derived.Test.YtclfbjbbdfejkaaFlowTail
namespace Go.Proofs.Ytclfbjbbdfejkaa.Flow
open Go.RowKit

def fits2 (ops : Array Oper) (size m s : Nat) : Bool :=
  (ops.size == m + 1) && (decide (s < m)) && ((List.range m).all fun j => dep ops m j || (List.range m).any fun i => dep ops m i && dep ops i j) &&
  (List.range ops.size).all fun i => ((ops[i]?).map fun o =>
    (match o.dst with | some d => decide (d < size) | none => i == m || i == s) && (o.after.all fun e => !Region.binds .any e || decide (e.on < i)) &&
    (List.range ops.size).all fun j => ((ops[j]?).map fun oj => (i == j || oj.dst == none || oj.dst != o.dst) &&
      (match oj.dst with | some d => !(o.looksAt ops).contains d || (if j < i then dep ops i j else dep ops j i) | none => true)).getD true).getD true
section
variable {ops : Array Oper} {size m s : Nat}
theorem fits2_size (h : fits2 ops size m s = true) : ops.size = m + 1 := by
  simp only [fits2, Bool.and_eq_true, beq_iff_eq] at h
  exact h.1.1.1
theorem fits2_s (h : fits2 ops size m s = true) : s < m := by
  simp only [fits2, Bool.and_eq_true, decide_eq_true_eq] at h
  exact h.1.1.2
theorem fits2_last (h : fits2 ops size m s = true) {j : Nat} (hj : j < m) : (dep ops m j || (List.range m).any fun i => dep ops m i && dep ops i j) = true := by
  simp only [fits2, Bool.and_eq_true] at h
  exact (List.all_eq_true.1 h.1.2) j (List.mem_range.2 hj)
theorem fits2_at (h : fits2 ops size m s = true) {i : Nat} {o : Oper} (ho : ops[i]? = some o) :
    (i ≠ m → i ≠ s → ∃ d, o.dst = some d ∧ d < size) ∧ (∀ e ∈ o.after, Region.binds .any e = true → e.on < i) ∧
    ∀ (j : Nat) (oj : Oper), ops[j]? = some oj → (i ≠ j → ∀ d, oj.dst = some d → oj.dst ≠ o.dst) ∧ ∀ d, oj.dst = some d → d ∈ o.looksAt ops → (if j < i then dep ops i j else dep ops j i) = true := by
  have hi : i < ops.size := (Array.getElem?_eq_some_iff.1 ho).1
  simp only [fits2, Bool.and_eq_true] at h
  have h1 := (List.all_eq_true.1 h.2) i (List.mem_range.2 hi)
  simp only [ho, Option.map_some, Option.getD_some, Bool.and_eq_true] at h1
  obtain ⟨⟨h2, h3⟩, h4⟩ := h1
  refine ⟨?_, ?_, ?_⟩
  · intro hne hns
    cases hd : o.dst with
    | none => rw [hd] at h2; simp [hne, hns] at h2
    | some d => rw [hd] at h2; exact ⟨d, rfl, by simpa using h2⟩
  · intro e he hb
    have := (Array.all_eq_true_iff_forall_mem.1 h3) e he
    simpa [hb] using this
  · intro j oj hoj
    have hj : j < ops.size := (Array.getElem?_eq_some_iff.1 hoj).1
    have h5 := (List.all_eq_true.1 h4) j (List.mem_range.2 hj)
    simp only [hoj, Option.map_some, Option.getD_some, Bool.and_eq_true] at h5
    refine ⟨fun hne d hd he => ?_, fun d hd hm => ?_⟩
    · have := h5.1
      rw [hd] at he
      simp [hne, hd, ← he] at this
    · have h6 := h5.2
      rw [hd] at h6
      simpa [hm] using h6
end
structure Inv2 (ops : Array Oper) (a0 : Act) (G : Nat → Value → World → Prop) (listed : Array Bool) (a : Act) (w : World) : Prop where
  defers : a.defers = a0.defers
  tsize : a.tmps.size = a0.tmps.size
  lsize : listed.size = ops.size
  got : ∀ (j : Nat) (o : Oper) (t : Tmp), ops[j]? = some o → o.dst = some t → listed.getD j false = true → G j (a.tmps.getD t undef) w
  old : ∀ t, (∀ (j : Nat) (o : Oper), ops[j]? = some o → o.dst = some t → listed.getD j false = false) → a.tmps.getD t undef = a0.tmps.getD t undef
  closed : ∀ (j : Nat) (o : Oper), ops[j]? = some o → listed.getD j false = true → ∀ e ∈ o.after, Region.binds .any e = true → listed.getD e.on false = true
theorem region_two {P : Program} {ops : Array Oper} {m s : Nat} {last : Oper} {a0 : Act} {W : World} {G : Nat → Value → World → Prop} {L : List Nat} {K : World → Prop} {Q : Exit → Act → World → Prop} (hB : fits2 ops a0.tmps.size m s = true) (hla : ops[m]? = some last) (hL : (L.all fun l => dep ops s l) = true)
    (pure : ∀ i v w w', G i v w → G i v w')
    (loc : ∀ (i : Nat) (o : Oper), i < m → ops[i]? = some o → i ≠ s → ∀ a w, (i ∈ L → w = W) → (∀ t ∈ o.looksAt ops, Known ops a0 G i t a w) →
      if Region.wanted o (yielded ops a.tmps) then step P o a w (fun v w' => w' = w ∧ G i v w') else G i undef w)
    (locS : ∀ (o : Oper), ops[s]? = some o → ∀ a, a.tmps.size = a0.tmps.size → (∀ t ∈ o.looksAt ops, Known ops a0 G s t a W) → o.guard = none ∧ o.dst = none ∧ step P o a W (fun _ w' => K w'))
    (fin : ∀ a w, K w → a.defers = a0.defers → a.tmps.size = a0.tmps.size → (∀ (j : Nat) (o : Oper) (t : Tmp), j < m → ops[j]? = some o → o.dst = some t → G j (a.tmps.getD t undef) w) →
      (∀ t, (∀ (j : Nat) (o : Oper), ops[j]? = some o → o.dst ≠ some t) → a.tmps.getD t undef = a0.tmps.getD t undef) → wpList P ops Q [last] a w) :
    ∀ (fuel : Nat) (listed : Array Bool) (a : Act) (w : World), Inv2 ops a0 G listed a w → ((listed.getD s false = false ∧ w = W) ∨ (listed.getD s false = true ∧ K w)) → listed.getD m false = false → (List.range ops.size).countP (fun i => !listed.getD i true) ≤ fuel → wpAny P .any ops Q fuel listed a w := by
  have hsz := fits2_size hB
  have hsm := fits2_s hB
  -- it isn't over ahead of the last one
  have done : ∀ (listed : Array Bool) (a : Act) (w : World), Inv2 ops a0 G listed a w → listed.getD m false = false → Region.ready .any ops listed ≠ [] := by
    intro listed a w hI hlm hr
    have hall : ∀ n j o, j ≤ n → ops[j]? = some o → listed.getD j false = true := by
      intro n
      induction n with
      | zero =>
        intro j o hj ho
        obtain rfl : j = 0 := by omega
        by_cases hl : listed.getD 0 false = true
        · exact hl
        · have hm : 0 ∈ Region.ready .any ops listed := by
            have hlt : 0 < listed.size := by rw [hI.lsize]; exact (Array.getElem?_eq_some_iff.1 ho).1
            rw [mem_ready]
            refine ⟨by simpa [hlt] using hl, o, ho, fun e he hb => ?_⟩
            have := (fits2_at hB ho).2.1 e he hb
            omega
          rw [hr] at hm; cases hm
      | succ n ih =>
        intro j o hj ho
        by_cases hl : listed.getD j false = true
        · exact hl
        · have hm : j ∈ Region.ready .any ops listed := by
            have hlt : j < listed.size := by rw [hI.lsize]; exact (Array.getElem?_eq_some_iff.1 ho).1
            rw [mem_ready]
            refine ⟨by simpa [hlt] using hl, o, ho, fun e he hb => ?_⟩
            have h1 := (fits2_at hB ho).2.1 e he hb
            have h2 : e.on < ops.size := Nat.lt_trans h1 (Array.getElem?_eq_some_iff.1 ho).1
            exact ih e.on _ (by omega) (Array.getElem?_eq_getElem h2)
          rw [hr] at hm; cases hm
    have := hall m m last (Nat.le_refl _) hla
    rw [hlm] at this
    cases this
  intro fuel
  induction fuel with
  | zero =>
    intro listed a w hI _ hlm hc
    exfalso
    have h2 := List.countP_eq_zero.1 (Nat.le_zero.1 hc) m (List.mem_range.2 (by omega))
    have hll : m < listed.size := by rw [hI.lsize]; omega
    have h3 : listed.getD m true = false := by simpa [hll] using hlm
    rw [h3] at h2
    exact h2 rfl
  | succ fuel ih =>
    intro listed a w hI hSt hlm hc
    refine ⟨fun hr => absurd hr (done listed a w hI hlm), fun i hi => ?_⟩
    obtain ⟨h0, o, ho, hdeps⟩ := mem_ready.1 hi
    have hlt : i < ops.size := (Array.getElem?_eq_some_iff.1 ho).1
    have hll : i < listed.size := by rw [hI.lsize]; exact hlt
    have h0' : listed.getD i false = false := by simpa [hll] using h0
    by_cases him : i = m
    · subst him
      rw [hla] at ho; cases ho
      have hothers : ∀ j, j < i → listed.getD j false = true := by
        intro j hj
        have hd1 : ∀ x, dep ops i x = true → listed.getD x false = true := fun x hx => by
          obtain ⟨o', ho', e, he, hb, hon⟩ := dep_spec hx
          rw [hla] at ho'; cases ho'
          rw [← hon]; exact hdeps e he hb
        rcases Bool.or_eq_true_iff.1 (fits2_last hB hj) with h1 | h1
        · exact hd1 j h1
        · obtain ⟨x, _, hx⟩ := List.any_eq_true.1 h1
          rw [Bool.and_eq_true] at hx
          obtain ⟨o', ho', e, he, hb, hon⟩ := dep_spec hx.2
          have := hI.closed x o' ho' (hd1 x hx.1) e he hb
          rw [← hon]; exact this
      have hK : K w := by
        rcases hSt with h | h
        · rw [hothers s hsm] at h; cases h.1
        · exact h.2
      have hF := fin a w hK hI.defers hI.tsize (fun j oj t hj hoj hjt => hI.got j oj t hoj hjt (hothers j hj)) (fun t ht => hI.old t fun j oj hj hd => absurd hd (ht j oj hj))
      have hend : ∀ a w, Q .normal a w → wpAny P .any ops Q fuel (listed.setIfInBounds i true) a w := by
        intro a w hQ
        have hr : Region.ready .any ops (listed.setIfInBounds i true) = [] := by
          apply List.eq_nil_iff_forall_not_mem.2
          intro k hk
          have h1 := (mem_ready.1 hk).1
          obtain ⟨o2, ho2, _⟩ := (mem_ready.1 hk).2
          have hk2 : k < ops.size := (Array.getElem?_eq_some_iff.1 ho2).1
          by_cases hki : k = i
          · subst hki; simp [hll] at h1
          · rw [getD_set_ne true (Ne.symm hki)] at h1
            have h3 := hothers k (by omega)
            have hkl : k < listed.size := by rw [hI.lsize]; exact hk2
            simp [hkl] at h1 h3
            rw [h3] at h1
            cases h1
        cases fuel with
        | zero => exact ⟨hr, hQ⟩
        | succ f => exact ⟨fun _ => hQ, fun k hk => by rw [hr] at hk; cases hk⟩
      unfold wpList at hF
      unfold wpOp
      simp only [hla]
      split
      · rename_i hw
        rw [if_pos hw] at hF
        exact hF.imp (Oper.wp_mono fun a w h => hend a w (by unfold wpList at h; exact h)) id
      · rename_i hw
        rw [if_neg hw] at hF
        unfold wpList at hF
        exact hend _ _ hF
    have him2 : i < m := by omega
    obtain ⟨hdd, hlow, hpair⟩ := fits2_at hB ho
    have hknown : ∀ t ∈ o.looksAt ops, Known ops a0 G i t a w := by
      intro t ht
      refine ⟨fun j oj hj hjt hlt2 => ?_, fun hno => ?_⟩
      · have h1 := (hpair j oj hj).2 t hjt ht
        rw [if_pos hlt2] at h1
        obtain ⟨o', ho', e, he, hb, hon⟩ := dep_spec h1
        rw [ho] at ho'; cases ho'
        exact hI.got j oj t hj hjt (by rw [← hon]; exact hdeps e he hb)
      · refine hI.old t fun j oj hj hjt => ?_
        have h1 := (hpair j oj hj).2 t hjt ht
        rw [if_neg (hno j oj hj hjt)] at h1
        obtain ⟨o', ho', e, he, hb, hon⟩ := dep_spec h1
        rw [hj] at ho'; cases ho'
        cases hl : listed.getD j false with
        | false => rfl
        | true =>
          have := hI.closed j oj hj hl e he hb
          rw [hon, h0'] at this
          cases this
    by_cases his : i = s
    · subst his
      have hw1 : w = W := by
        rcases hSt with h | h
        · exact h.2
        · rw [h0'] at h; cases h.1
      subst hw1
      obtain ⟨hgd, hdn, hstep⟩ := locS o ho a hI.tsize hknown
      unfold wpOp
      simp only [ho]
      rw [if_pos (wanted_free hgd _)]
      refine .inl (step_wp (step_mono hstep fun v w' hk => ?_))
      have hput : a.put o.dst v = a := by rw [hdn]; rfl
      rw [hput]
      refine ih _ _ _ ⟨hI.defers, hI.tsize, ?_, ?_, ?_, ?_⟩ (.inr ⟨by simp [hll], hk⟩) (by rw [getD_set_ne false him]; exact hlm) ?_
      · simpa using hI.lsize
      · intro j oj t hj hjt hl
        by_cases hji : j = i
        · subst hji
          rw [ho] at hj; cases hj
          rw [hdn] at hjt; cases hjt
        · rw [getD_set_ne false (Ne.symm hji)] at hl
          exact pure _ _ _ _ (hI.got j oj t hj hjt hl)
      · intro t ht
        refine hI.old t fun j oj hj hjt => ?_
        have := ht j oj hj hjt
        by_cases hji : j = i
        · subst hji; exact h0'
        · rw [getD_set_ne false (Ne.symm hji)] at this; exact this
      · intro j oj hj hl e he hb2
        by_cases hji : j = i
        · subst hji
          rw [ho] at hj; cases hj
          exact getD_set_true (hdeps e he hb2)
        · rw [getD_set_ne false (Ne.symm hji)] at hl
          exact getD_set_true (hI.closed j oj hj hl e he hb2)
      · have hcount : (List.range ops.size).countP (fun k => !(listed.setIfInBounds i true).getD k true) < (List.range ops.size).countP (fun k => !listed.getD k true) := by
          have hsub : ∀ k, (!(listed.setIfInBounds i true).getD k true) = true → (!listed.getD k true) = true := by
            intro k hk
            by_cases hki : k = i
            · subst hki; simp [hll] at hk
            · rw [getD_set_ne true (Ne.symm hki)] at hk; exact hk
          have key : ∀ l : List Nat, i ∈ l → l.countP (fun k => !(listed.setIfInBounds i true).getD k true) < l.countP (fun k => !listed.getD k true) := by
            intro l
            induction l with
            | nil => intro h; cases h
            | cons x l ihl =>
              intro hm
              rw [List.countP_cons, List.countP_cons]
              have hle : l.countP (fun k => !(listed.setIfInBounds i true).getD k true) ≤ l.countP (fun k => !listed.getD k true) := List.countP_mono_left fun k _ => hsub k
              by_cases hx : x = i
              · subst hx
                have e1 : (!(listed.setIfInBounds x true).getD x true) = false := by simp [hll]
                have e2 : (!listed.getD x true) = true := by rw [h0]; rfl
                rw [e1, e2]
                simp only [Bool.false_eq_true, if_false, if_true]
                omega
              · have := ihl (by simpa [Ne.symm hx] using hm)
                have h3 : (if (!(listed.setIfInBounds i true).getD x true) = true then 1 else 0) = (if (!listed.getD x true) = true then 1 else 0) := by rw [getD_set_ne true (Ne.symm hx)]
                rw [h3]
                omega
          exact key _ (List.mem_range.2 hlt)
        omega
    obtain ⟨d, hd, hds⟩ := hdd him his
    -- the invariant behind it
    have hnext : ∀ v, G i v w → wpAny P .any ops Q fuel (listed.setIfInBounds i true) (a.put o.dst v) w := by
      intro v hg
      have hput : a.put o.dst v = { a with tmps := a.tmps.setIfInBounds d v } := by rw [hd]; rfl
      have hda : d < a.tmps.size := by rw [hI.tsize]; exact hds
      refine ih _ _ _ ⟨?_, ?_, ?_, ?_, ?_, ?_⟩ (by rw [getD_set_ne false his]; exact hSt) (by rw [getD_set_ne false him]; exact hlm) ?_
      · rw [hput]; exact hI.defers
      · rw [hput]; simpa using hI.tsize
      · simpa using hI.lsize
      · intro j oj t hj hjt hl
        rw [hput]
        by_cases hji : j = i
        · subst hji
          rw [ho] at hj; cases hj
          rw [hd] at hjt; cases hjt
          rw [getD_same _ _ _ hda]
          exact hg
        · have hne : d ≠ t := fun e => (hpair j oj hj).1 (Ne.symm hji) t hjt (by rw [hjt, hd, e])
          rw [getD_other _ _ _ _ hne]
          rw [getD_set_ne false (Ne.symm hji)] at hl
          exact pure _ _ _ _ (hI.got j oj t hj hjt hl)
      · intro t ht
        rw [hput]
        have hne : d ≠ t := fun e => by
          have := ht i o ho (by rw [hd, e])
          simp [hll] at this
        rw [getD_other _ _ _ _ hne]
        refine hI.old t fun j oj hj hjt => ?_
        have := ht j oj hj hjt
        by_cases hji : j = i
        · subst hji; exact h0'
        · rw [getD_set_ne false (Ne.symm hji)] at this; exact this
      · intro j oj hj hl e he hb2
        by_cases hji : j = i
        · subst hji
          rw [ho] at hj; cases hj
          exact getD_set_true (hdeps e he hb2)
        · rw [getD_set_ne false (Ne.symm hji)] at hl
          exact getD_set_true (hI.closed j oj hj hl e he hb2)
      · have hcount : (List.range ops.size).countP (fun k => !(listed.setIfInBounds i true).getD k true) < (List.range ops.size).countP (fun k => !listed.getD k true) := by
          have hsub : ∀ k, (!(listed.setIfInBounds i true).getD k true) = true → (!listed.getD k true) = true := by
            intro k hk
            by_cases hki : k = i
            · subst hki; simp [hll] at hk
            · rw [getD_set_ne true (Ne.symm hki)] at hk; exact hk
          have key : ∀ l : List Nat, i ∈ l → l.countP (fun k => !(listed.setIfInBounds i true).getD k true) < l.countP (fun k => !listed.getD k true) := by
            intro l
            induction l with
            | nil => intro h; cases h
            | cons x l ihl =>
              intro hm
              rw [List.countP_cons, List.countP_cons]
              have hle : l.countP (fun k => !(listed.setIfInBounds i true).getD k true) ≤ l.countP (fun k => !listed.getD k true) := List.countP_mono_left fun k _ => hsub k
              by_cases hx : x = i
              · subst hx
                have e1 : (!(listed.setIfInBounds x true).getD x true) = false := by simp [hll]
                have e2 : (!listed.getD x true) = true := by rw [h0]; rfl
                rw [e1, e2]
                simp only [Bool.false_eq_true, if_false, if_true]
                omega
              · have := ihl (by simpa [Ne.symm hx] using hm)
                have h3 : (if (!(listed.setIfInBounds i true).getD x true) = true then 1 else 0) = (if (!listed.getD x true) = true then 1 else 0) := by rw [getD_set_ne true (Ne.symm hx)]
                rw [h3]
                omega
          exact key _ (List.mem_range.2 hlt)
        omega
    have hLo := loc i o him2 ho his a w (fun hiL => by
      rcases hSt with h | h
      · exact h.2
      · exfalso
        obtain ⟨o', ho', e, he, hb, hon⟩ := dep_spec ((List.all_eq_true.1 hL) i hiL)
        have := hI.closed s o' ho' h.1 e he hb
        rw [hon, h0'] at this
        cases this) hknown
    unfold wpOp
    simp only [ho]
    split
    · rename_i hw
      rw [if_pos hw] at hLo
      exact .inl (step_wp (step_mono hLo fun v w' h => by
        obtain ⟨rfl, hg⟩ := h
        exact hnext v hg))
    · rename_i hw
      rw [if_neg hw] at hLo
      exact hnext undef hLo

/-- **The law**, with two stores. -/
theorem wp_region_two {P : Program} {id : Nat} {ops : Array Oper} {m s : Nat} {last : Oper} {a0 : Act} {w0 : World} {Q : Exit → Act → World → Prop} (hm : P.follows .mixedOrders = true) (L : List Nat) (G : Nat → Value → World → Prop) (K : World → Prop) (hB : fits2 ops a0.tmps.size m s = true) (hla : ops[m]? = some last) (hL : (L.all fun l => dep ops s l) = true)
    (pure : ∀ i v w w', G i v w → G i v w')
    (loc : ∀ (i : Nat) (o : Oper), i < m → ops[i]? = some o → i ≠ s → ∀ a w, (i ∈ L → w = { w0 with drawn := w0.drawn + 1 }) → (∀ t ∈ o.looksAt ops, Known ops a0 G i t a w) →
      if Region.wanted o (yielded ops a.tmps) then step P o a w (fun v w' => w' = w ∧ G i v w') else G i undef w)
    (locS : ∀ (o : Oper), ops[s]? = some o → ∀ a, a.tmps.size = a0.tmps.size → (∀ t ∈ o.looksAt ops, Known ops a0 G s t a { w0 with drawn := w0.drawn + 1 }) → o.guard = none ∧ o.dst = none ∧ step P o a { w0 with drawn := w0.drawn + 1 } (fun _ w' => K w'))
    (fin : ∀ a w, K w → a.defers = a0.defers → a.tmps.size = a0.tmps.size → (∀ (j : Nat) (o : Oper) (t : Tmp), j < m → ops[j]? = some o → o.dst = some t → G j (a.tmps.getD t undef) w) →
      (∀ t, (∀ (j : Nat) (o : Oper), ops[j]? = some o → o.dst ≠ some t) → a.tmps.getD t undef = a0.tmps.getD t undef) → wpList P ops Q [last] a w) : (Code.region id ops true).wp P Q a0 w0 := by
  refine wp_region_any hm ?_
  have hsz := fits2_size hB
  have hsm := fits2_s hB
  refine region_two hB hla hL pure loc locS fin _ _ _ _ ⟨rfl, rfl, by simp, ?_, fun _ _ => rfl, ?_⟩ (.inl ⟨?_, rfl⟩) ?_ ?_
  · intro j o t ho _ hl
    have hlt : j < ops.size := (Array.getElem?_eq_some_iff.1 ho).1
    simp [hlt] at hl
  · intro j o ho hl
    have hlt : j < ops.size := (Array.getElem?_eq_some_iff.1 ho).1
    simp [hlt] at hl
  · have hlt : s < ops.size := by omega
    simp [hlt]
  · simp [hsz]
  · exact Nat.le_trans List.countP_le_length (by simp)
end Go.Proofs.Ytclfbjbbdfejkaa.Flow
