/- As FlowTail, where some operations make or grow memory one behind the other (a chain); all others but the last only read. -/
import Derived.Test.YtclfbjbbdfejkaaFlowTail
namespace Go.Proofs.Ytclfbjbbdfejkaa.Flow
open Go.RowKit

/-- Each of the chain waits for the one ahead of it. -/
def chained (ops : Array Oper) (C : List Nat) : Bool := (List.range (C.length - 1)).all fun k => dep ops (C.getD (k + 1) 0) (C.getD k 0)
theorem chained_at {ops : Array Oper} {C : List Nat} (h : chained ops C = true) {k : Nat} (hk : k + 1 < C.length) : dep ops (C.getD (k + 1) 0) (C.getD k 0) = true :=
  (List.all_eq_true.1 h) k (List.mem_range.2 (by omega))
/-- What values are held. -/
def vals (a : Act) : Tmp → Value := fun t => a.tmps.getD t undef
/-- As 'fits', but for the last one's own place. -/
def fitsC (ops : Array Oper) (size m : Nat) : Bool :=
  (ops.size == m + 1) && ((List.range m).all fun j => dep ops m j || (List.range m).any fun i => dep ops m i && dep ops i j) &&
  (List.range ops.size).all fun i => ((ops[i]?).map fun o =>
    (match o.dst with | some d => decide (d < size) | none => i == m) && (o.after.all fun e => !Region.binds .any e || decide (e.on < i)) &&
    (List.range ops.size).all fun j => ((ops[j]?).map fun oj => (i == j || oj.dst != o.dst) &&
      (match oj.dst with | some d => !(o.looksAt ops).contains d || (if j < i then dep ops i j else dep ops j i) | none => true)).getD true).getD true
section
variable {ops : Array Oper} {size m : Nat}
theorem fitsC_size (h : fitsC ops size m = true) : ops.size = m + 1 := by
  simp only [fitsC, Bool.and_eq_true, beq_iff_eq] at h
  exact h.1.1
theorem fitsC_last (h : fitsC ops size m = true) {j : Nat} (hj : j < m) : (dep ops m j || (List.range m).any fun i => dep ops m i && dep ops i j) = true := by
  simp only [fitsC, Bool.and_eq_true] at h
  exact (List.all_eq_true.1 h.1.2) j (List.mem_range.2 hj)
theorem fitsC_at (h : fitsC ops size m = true) {i : Nat} {o : Oper} (ho : ops[i]? = some o) :
    (i ≠ m → ∃ d, o.dst = some d ∧ d < size) ∧ (∀ e ∈ o.after, Region.binds .any e = true → e.on < i) ∧
    ∀ (j : Nat) (oj : Oper), ops[j]? = some oj → (i ≠ j → oj.dst ≠ o.dst) ∧ ∀ d, oj.dst = some d → d ∈ o.looksAt ops → (if j < i then dep ops i j else dep ops j i) = true := by
  have hi : i < ops.size := (Array.getElem?_eq_some_iff.1 ho).1
  simp only [fitsC, Bool.and_eq_true] at h
  have h1 := (List.all_eq_true.1 h.2) i (List.mem_range.2 hi)
  simp only [ho, Option.map_some, Option.getD_some, Bool.and_eq_true] at h1
  obtain ⟨⟨h2, h3⟩, h4⟩ := h1
  refine ⟨?_, ?_, ?_⟩
  · intro hne
    cases hd : o.dst with
    | none => rw [hd] at h2; exact absurd (by simpa using h2) hne
    | some d => rw [hd] at h2; exact ⟨d, rfl, by simpa using h2⟩
  · intro e he hb
    have := (Array.all_eq_true_iff_forall_mem.1 h3) e he
    simpa [hb] using this
  · intro j oj hoj
    have hj : j < ops.size := (Array.getElem?_eq_some_iff.1 hoj).1
    have h5 := (List.all_eq_true.1 h4) j (List.mem_range.2 hj)
    simp only [hoj, Option.map_some, Option.getD_some, Bool.and_eq_true] at h5
    refine ⟨fun hne he => ?_, fun d hd hm => ?_⟩
    · have := h5.1
      simp [hne, he] at this
    · have h6 := h5.2
      rw [hd] at h6
      simpa [hm] using h6
end
/-- How far the chain is. -/
def Stage (C : List Nat) (S : Nat → (Tmp → Value) → World → Prop) (listed : Array Bool) (a : Act) (w : World) : Prop :=
  ∃ k, k ≤ C.length ∧ (∀ i, i < k → listed.getD (C.getD i 0) false = true) ∧ (∀ i, k ≤ i → i < C.length → listed.getD (C.getD i 0) false = false) ∧ S k (vals a) w
theorem region_chain {P : Program} {ops : Array Oper} {m : Nat} {last : Oper} {a0 : Act} {w0 : World} {G : Nat → Value → World → Prop} {C : List Nat} {S : Nat → (Tmp → Value) → World → Prop} {Q : Exit → Act → World → Prop} (hB : fitsC ops a0.tmps.size m = true) (hla : ops[m]? = some last) (hC : chained ops C = true) (hCm : ∀ c ∈ C, c < m)
    (pure : ∀ i v w w', G i v w → G i v w')
    (indep : ∀ k f f' w, (∀ (i : Nat) (o : Oper) (t : Tmp), i ∈ C → ops[i]? = some o → o.dst = some t → f t = f' t) → S k f w → S k f' w)
    (loc : ∀ (i : Nat) (o : Oper), i < m → ops[i]? = some o → i ∉ C → ∀ a w, Below w0.heap.size w0 w → (∀ t ∈ o.looksAt ops, Known ops a0 G i t a w) →
      if Region.wanted o (yielded ops a.tmps) then step P o a w (fun v w' => w' = w ∧ G i v w') else G i undef w)
    (locC : ∀ (k i : Nat) (o : Oper), C[k]? = some i → ops[i]? = some o → ∀ a w, Below w0.heap.size w0 w → a.tmps.size = a0.tmps.size → (∀ t ∈ o.looksAt ops, Known ops a0 G i t a w) → S k (vals a) w →
      o.guard = none ∧ step P o a w (fun v w' => Below w0.heap.size w w' ∧ G i v w' ∧ S (k + 1) (vals (a.put o.dst v)) w'))
    (fin : ∀ a w, Below w0.heap.size w0 w → a.defers = a0.defers → a.tmps.size = a0.tmps.size → (∀ (j : Nat) (o : Oper) (t : Tmp), j < m → ops[j]? = some o → o.dst = some t → G j (a.tmps.getD t undef) w) →
      (∀ t, (∀ (j : Nat) (o : Oper), ops[j]? = some o → o.dst ≠ some t) → a.tmps.getD t undef = a0.tmps.getD t undef) → S C.length (vals a) w → wpList P ops Q [last] a w) :
    ∀ (fuel : Nat) (listed : Array Bool) (a : Act) (w : World), Inv ops a0 w0 G listed a w → Stage C S listed a w → listed.getD m false = false → (List.range ops.size).countP (fun i => !listed.getD i true) ≤ fuel → wpAny P .any ops Q fuel listed a w := by
  have hsz := fitsC_size hB
  -- it isn't over ahead of the last one
  have done : ∀ (listed : Array Bool) (a : Act) (w : World), Inv ops a0 w0 G listed a w → listed.getD m false = false → Region.ready .any ops listed ≠ [] := by
    intro listed a w hI hlm hr
    have hall : ∀ n j o, j ≤ n → ops[j]? = some o → listed.getD j false = true := by
      intro n
      induction n with
      | zero =>
        intro j o hj ho
        obtain rfl : j = 0 := by omega
        by_cases hl : listed.getD 0 false = true
        · exact hl
        · have hm : 0 ∈ Region.ready .any ops listed := by
            have hlt : 0 < listed.size := by rw [hI.lsize]; exact (Array.getElem?_eq_some_iff.1 ho).1
            rw [mem_ready]
            refine ⟨by simpa [hlt] using hl, o, ho, fun e he hb => ?_⟩
            have := (fitsC_at hB ho).2.1 e he hb
            omega
          rw [hr] at hm; cases hm
      | succ n ih =>
        intro j o hj ho
        by_cases hl : listed.getD j false = true
        · exact hl
        · have hm : j ∈ Region.ready .any ops listed := by
            have hlt : j < listed.size := by rw [hI.lsize]; exact (Array.getElem?_eq_some_iff.1 ho).1
            rw [mem_ready]
            refine ⟨by simpa [hlt] using hl, o, ho, fun e he hb => ?_⟩
            have h1 := (fitsC_at hB ho).2.1 e he hb
            have h2 : e.on < ops.size := Nat.lt_trans h1 (Array.getElem?_eq_some_iff.1 ho).1
            exact ih e.on _ (by omega) (Array.getElem?_eq_getElem h2)
          rw [hr] at hm; cases hm
    have := hall m m last (Nat.le_refl _) hla
    rw [hlm] at this
    cases this
  intro fuel
  induction fuel with
  | zero =>
    intro listed a w hI _ hlm hc
    exfalso
    have h2 := List.countP_eq_zero.1 (Nat.le_zero.1 hc) m (List.mem_range.2 (by omega))
    have hll : m < listed.size := by rw [hI.lsize]; omega
    have h3 : listed.getD m true = false := by simpa [hll] using hlm
    rw [h3] at h2
    exact h2 rfl
  | succ fuel ih =>
    intro listed a w hI hSt hlm hc
    refine ⟨fun hr => absurd hr (done listed a w hI hlm), fun i hi => ?_⟩
    obtain ⟨h0, o, ho, hdeps⟩ := mem_ready.1 hi
    have hlt : i < ops.size := (Array.getElem?_eq_some_iff.1 ho).1
    have hll : i < listed.size := by rw [hI.lsize]; exact hlt
    have h0' : listed.getD i false = false := by simpa [hll] using h0
    by_cases him : i = m
    · subst him
      rw [hla] at ho; cases ho
      have hothers : ∀ j, j < i → listed.getD j false = true := by
        intro j hj
        have hd1 : ∀ x, dep ops i x = true → listed.getD x false = true := fun x hx => by
          obtain ⟨o', ho', e, he, hb, hon⟩ := dep_spec hx
          rw [hla] at ho'; cases ho'
          rw [← hon]; exact hdeps e he hb
        rcases Bool.or_eq_true_iff.1 (fitsC_last hB hj) with h1 | h1
        · exact hd1 j h1
        · obtain ⟨x, _, hx⟩ := List.any_eq_true.1 h1
          rw [Bool.and_eq_true] at hx
          obtain ⟨o', ho', e, he, hb, hon⟩ := dep_spec hx.2
          have := hI.closed x o' ho' (hd1 x hx.1) e he hb
          rw [← hon]; exact this
      have hF := fin a w hI.below hI.defers hI.tsize (fun j oj t hj hoj hjt => hI.got j oj t hoj hjt (hothers j hj)) (fun t ht => hI.old t fun j oj hj hd => absurd hd (ht j oj hj)) (by
        obtain ⟨k, hk1, hk2, hk3, hk4⟩ := hSt
        rcases Nat.lt_or_ge k C.length with hlt3 | hge3
        · have h1 := hk3 k (Nat.le_refl _) hlt3
          have hmem : C.getD k 0 ∈ C := by rw [List.getD_eq_getElem?_getD, List.getElem?_eq_getElem hlt3]; exact List.getElem_mem hlt3
          rw [hothers _ (hCm _ hmem)] at h1
          cases h1
        · have e : k = C.length := by omega
          rw [e] at hk4; exact hk4)
      have hend : ∀ a w, Q .normal a w → wpAny P .any ops Q fuel (listed.setIfInBounds i true) a w := by
        intro a w hQ
        have hr : Region.ready .any ops (listed.setIfInBounds i true) = [] := by
          apply List.eq_nil_iff_forall_not_mem.2
          intro k hk
          have h1 := (mem_ready.1 hk).1
          obtain ⟨o2, ho2, _⟩ := (mem_ready.1 hk).2
          have hk2 : k < ops.size := (Array.getElem?_eq_some_iff.1 ho2).1
          by_cases hki : k = i
          · subst hki; simp [hll] at h1
          · rw [getD_set_ne true (Ne.symm hki)] at h1
            have h3 := hothers k (by omega)
            have hkl : k < listed.size := by rw [hI.lsize]; exact hk2
            simp [hkl] at h1 h3
            rw [h3] at h1
            cases h1
        cases fuel with
        | zero => exact ⟨hr, hQ⟩
        | succ f => exact ⟨fun _ => hQ, fun k hk => by rw [hr] at hk; cases hk⟩
      unfold wpList at hF
      unfold wpOp
      simp only [hla]
      split
      · rename_i hw
        rw [if_pos hw] at hF
        exact hF.imp (Oper.wp_mono fun a w h => hend a w (by unfold wpList at h; exact h)) id
      · rename_i hw
        rw [if_neg hw] at hF
        unfold wpList at hF
        exact hend _ _ hF
    have him2 : i < m := by omega
    obtain ⟨hdd, hlow, hpair⟩ := fitsC_at hB ho
    obtain ⟨d, hd, hds⟩ := hdd him
    have hknown : ∀ t ∈ o.looksAt ops, Known ops a0 G i t a w := by
      intro t ht
      refine ⟨fun j oj hj hjt hlt2 => ?_, fun hno => ?_⟩
      · have h1 := (hpair j oj hj).2 t hjt ht
        rw [if_pos hlt2] at h1
        obtain ⟨o', ho', e, he, hb, hon⟩ := dep_spec h1
        rw [ho] at ho'; cases ho'
        exact hI.got j oj t hj hjt (by rw [← hon]; exact hdeps e he hb)
      · refine hI.old t fun j oj hj hjt => ?_
        have h1 := (hpair j oj hj).2 t hjt ht
        rw [if_neg (hno j oj hj hjt)] at h1
        obtain ⟨o', ho', e, he, hb, hon⟩ := dep_spec h1
        rw [hj] at ho'; cases ho'
        cases hl : listed.getD j false with
        | false => rfl
        | true =>
          have := hI.closed j oj hj hl e he hb
          rw [hon, h0'] at this
          cases this
    -- the invariant behind it
    have hnext : ∀ v w', Below w0.heap.size w w' → G i v w' → Stage C S (listed.setIfInBounds i true) (a.put o.dst v) w' → wpAny P .any ops Q fuel (listed.setIfInBounds i true) (a.put o.dst v) w' := by
      intro v w' hb hg hst
      have hput : a.put o.dst v = { a with tmps := a.tmps.setIfInBounds d v } := by rw [hd]; rfl
      have hda : d < a.tmps.size := by rw [hI.tsize]; exact hds
      refine ih _ _ _ ⟨?_, ?_, ?_, ?_, ?_, ?_, ?_⟩ hst (by rw [getD_set_ne false him]; exact hlm) ?_
      · exact ⟨hb.os.trans hI.below.os, hb.tape.trans hI.below.tape, hb.output.trans hI.below.output, Nat.le_trans hI.below.size hb.size, fun k hk => (hb.block k hk).trans (hI.below.block k hk)⟩
      · rw [hput]; exact hI.defers
      · rw [hput]; simpa using hI.tsize
      · simpa using hI.lsize
      · intro j oj t hj hjt hl
        rw [hput]
        by_cases hji : j = i
        · subst hji
          rw [ho] at hj; cases hj
          rw [hd] at hjt; cases hjt
          rw [getD_same _ _ _ hda]
          exact hg
        · have hne : d ≠ t := fun e => (hpair j oj hj).1 (Ne.symm hji) (by rw [hjt, hd, e])
          rw [getD_other _ _ _ _ hne]
          rw [getD_set_ne false (Ne.symm hji)] at hl
          exact pure _ _ _ _ (hI.got j oj t hj hjt hl)
      · intro t ht
        rw [hput]
        have hne : d ≠ t := fun e => by
          have := ht i o ho (by rw [hd, e])
          simp [hll] at this
        rw [getD_other _ _ _ _ hne]
        refine hI.old t fun j oj hj hjt => ?_
        have := ht j oj hj hjt
        by_cases hji : j = i
        · subst hji; exact h0'
        · rw [getD_set_ne false (Ne.symm hji)] at this; exact this
      · intro j oj hj hl e he hb2
        by_cases hji : j = i
        · subst hji
          rw [ho] at hj; cases hj
          exact getD_set_true (hdeps e he hb2)
        · rw [getD_set_ne false (Ne.symm hji)] at hl
          exact getD_set_true (hI.closed j oj hj hl e he hb2)
      · have hcount : (List.range ops.size).countP (fun k => !(listed.setIfInBounds i true).getD k true) < (List.range ops.size).countP (fun k => !listed.getD k true) := by
          have hsub : ∀ k, (!(listed.setIfInBounds i true).getD k true) = true → (!listed.getD k true) = true := by
            intro k hk
            by_cases hki : k = i
            · subst hki; simp [hll] at hk
            · rw [getD_set_ne true (Ne.symm hki)] at hk; exact hk
          have key : ∀ l : List Nat, i ∈ l → l.countP (fun k => !(listed.setIfInBounds i true).getD k true) < l.countP (fun k => !listed.getD k true) := by
            intro l
            induction l with
            | nil => intro h; cases h
            | cons x l ihl =>
              intro hm
              rw [List.countP_cons, List.countP_cons]
              have hle : l.countP (fun k => !(listed.setIfInBounds i true).getD k true) ≤ l.countP (fun k => !listed.getD k true) := List.countP_mono_left fun k _ => hsub k
              by_cases hx : x = i
              · subst hx
                have e1 : (!(listed.setIfInBounds x true).getD x true) = false := by simp [hll]
                have e2 : (!listed.getD x true) = true := by rw [h0]; rfl
                rw [e1, e2]
                simp only [Bool.false_eq_true, if_false, if_true]
                omega
              · have := ihl (by simpa [Ne.symm hx] using hm)
                have h3 : (if (!(listed.setIfInBounds i true).getD x true) = true then 1 else 0) = (if (!listed.getD x true) = true then 1 else 0) := by rw [getD_set_ne true (Ne.symm hx)]
                rw [h3]
                omega
          exact key _ (List.mem_range.2 hlt)
        omega
    obtain ⟨kc, hk1, hk2, hk3, hk4⟩ := hSt
    have hputv : ∀ v, a.put o.dst v = { a with tmps := a.tmps.setIfInBounds d v } := fun v => by rw [hd]; rfl
    have hgetne : ∀ c, c < C.length → C.getD c 0 ≠ i → listed.getD (C.getD c 0) false = (listed.setIfInBounds i true).getD (C.getD c 0) false := fun c _ hne => (getD_set_ne false (Ne.symm hne)).symm
    have hset : (listed.setIfInBounds i true).getD i false = true := by simp [hll]
    by_cases hiC : i ∈ C
    · -- one of the chain: it is the next
      obtain ⟨c, hc1, hc2⟩ := List.getElem_of_mem hiC
      have hcD : ∀ x, (h : x < C.length) → C.getD x 0 = C[x] := fun x h => by rw [List.getD_eq_getElem?_getD, List.getElem?_eq_getElem h]; rfl
      have hge : kc ≤ c := by
        rcases Nat.lt_or_ge c kc with h | h
        · have := hk2 c h
          rw [hcD c hc1, hc2, h0'] at this
          cases this
        · exact h
      have hle : c ≤ kc := by
        rcases Nat.eq_zero_or_pos c with h | h
        · omega
        · obtain ⟨c', rfl⟩ : ∃ c', c = c' + 1 := ⟨c - 1, by omega⟩
          have h1 := chained_at hC hc1
          rw [hcD _ hc1, hc2] at h1
          obtain ⟨o', ho', e, he, hb, hon⟩ := dep_spec h1
          rw [ho] at ho'; cases ho'
          have h2 := hdeps e he hb
          rw [hon] at h2
          rcases Nat.lt_or_ge c' kc with h3 | h3
          · omega
          · have := hk3 c' h3 (by omega)
            rw [h2] at this
            cases this
      obtain rfl : kc = c := by omega
      have hCk : C[kc]? = some i := by rw [List.getElem?_eq_getElem hc1, hc2]
      obtain ⟨hgd, hstep⟩ := locC kc i o hCk ho a w hI.below hI.tsize hknown hk4
      -- the chain rises
      have hrise : ∀ x y, x < y → (hy : y < C.length) → C.getD x 0 < C.getD y 0 := by
        intro x y hxy
        induction y with
        | zero => omega
        | succ y ihy =>
          intro hy
          have h1 := chained_at hC hy
          obtain ⟨o', ho', e, he, hb, hon⟩ := dep_spec h1
          have h2 := (fitsC_at hB ho').2.1 e he hb
          rw [hon] at h2
          rcases Nat.lt_or_ge x y with h3 | h3
          · exact Nat.lt_trans (ihy h3 (by omega)) h2
          · obtain rfl : x = y := by omega
            exact h2
      unfold wpOp
      simp only [ho]
      rw [if_pos (wanted_free hgd _)]
      refine .inl (step_wp (step_mono hstep fun v w' h => hnext v w' h.1 h.2.1 ⟨kc + 1, by omega, fun x hx => ?_, fun x hx hxl => ?_, h.2.2⟩))
      · rcases Nat.lt_or_ge x kc with h3 | h3
        · rw [← hgetne x (by omega) (by have := hrise x kc h3 hc1; rw [hcD kc hc1, hc2] at this; omega)]
          exact hk2 x h3
        · obtain rfl : x = kc := by omega
          rw [hcD _ hc1, hc2]; exact hset
      · rw [← hgetne x hxl (by have := hrise kc x (by omega) hxl; rw [hcD kc hc1, hc2] at this; omega)]
        exact hk3 x (by omega) hxl
    · have hL := loc i o him2 ho hiC a w hI.below hknown
      have hstage : ∀ v, Stage C S (listed.setIfInBounds i true) (a.put o.dst v) w := fun v => by
        have hmem : ∀ c, c < C.length → C.getD c 0 ≠ i := fun c hc e => hiC (by
          rw [← e, List.getD_eq_getElem?_getD, List.getElem?_eq_getElem hc]
          exact List.getElem_mem hc)
        refine ⟨kc, hk1, fun x hx => ?_, fun x hx hxl => ?_, indep kc _ _ w (fun j oj t hj hoj hjt => ?_) hk4⟩
        · rw [← hgetne x (by omega) (hmem x (by omega))]; exact hk2 x hx
        · rw [← hgetne x hxl (hmem x hxl)]; exact hk3 x hx hxl
        · have hne : d ≠ t := fun e => (hpair j oj hoj).1 (fun e2 => hiC (e2 ▸ hj)) (by rw [hjt, hd, e])
          unfold vals
          rw [hputv, getD_other _ _ _ _ hne]
      unfold wpOp
      simp only [ho]
      split
      · rename_i hw
        rw [if_pos hw] at hL
        exact .inl (step_wp (step_mono hL fun v w' h => by
          obtain ⟨rfl, hg⟩ := h
          exact hnext v _ (Below.refl _ _) hg (hstage v)))
      · rename_i hw
        rw [if_neg hw] at hL
        exact hnext undef w (Below.refl _ _) hL (hstage undef)

/-- **The law**, with a chain. -/
theorem wp_region_chain {P : Program} {id : Nat} {ops : Array Oper} {m : Nat} {last : Oper} {a0 : Act} {w0 : World} {Q : Exit → Act → World → Prop} (hm : P.follows .mixedOrders = true) (C : List Nat) (G : Nat → Value → World → Prop) (S : Nat → (Tmp → Value) → World → Prop) (hB : fitsC ops a0.tmps.size m = true) (hla : ops[m]? = some last) (hC : chained ops C = true) (hCm : ∀ c ∈ C, c < m)
    (pure : ∀ i v w w', G i v w → G i v w')
    (indep : ∀ k f f' w, (∀ (i : Nat) (o : Oper) (t : Tmp), i ∈ C → ops[i]? = some o → o.dst = some t → f t = f' t) → S k f w → S k f' w) (start : ∀ w, Below w0.heap.size w0 w → w.heap = w0.heap → S 0 (vals a0) w)
    (loc : ∀ (i : Nat) (o : Oper), i < m → ops[i]? = some o → i ∉ C → ∀ a w, Below w0.heap.size w0 w → (∀ t ∈ o.looksAt ops, Known ops a0 G i t a w) →
      if Region.wanted o (yielded ops a.tmps) then step P o a w (fun v w' => w' = w ∧ G i v w') else G i undef w)
    (locC : ∀ (k i : Nat) (o : Oper), C[k]? = some i → ops[i]? = some o → ∀ a w, Below w0.heap.size w0 w → a.tmps.size = a0.tmps.size → (∀ t ∈ o.looksAt ops, Known ops a0 G i t a w) → S k (vals a) w →
      o.guard = none ∧ step P o a w (fun v w' => Below w0.heap.size w w' ∧ G i v w' ∧ S (k + 1) (vals (a.put o.dst v)) w'))
    (fin : ∀ a w, Below w0.heap.size w0 w → a.defers = a0.defers → a.tmps.size = a0.tmps.size → (∀ (j : Nat) (o : Oper) (t : Tmp), j < m → ops[j]? = some o → o.dst = some t → G j (a.tmps.getD t undef) w) →
      (∀ t, (∀ (j : Nat) (o : Oper), ops[j]? = some o → o.dst ≠ some t) → a.tmps.getD t undef = a0.tmps.getD t undef) → S C.length (vals a) w → wpList P ops Q [last] a w) : (Code.region id ops true).wp P Q a0 w0 := by
  refine wp_region_any hm ?_
  have hsz := fitsC_size hB
  refine region_chain hB hla hC hCm pure indep loc locC fin _ _ _ _ ⟨⟨rfl, rfl, rfl, Nat.le_refl _, fun _ _ => rfl⟩, rfl, rfl, by simp, ?_, fun _ _ => rfl, ?_⟩ ⟨0, Nat.zero_le _, fun i hi => absurd hi (by omega), fun i _ hi => ?_, start _ ⟨rfl, rfl, rfl, Nat.le_refl _, fun _ _ => rfl⟩ rfl⟩ ?_ ?_
  · intro j o t ho _ hl
    have hlt : j < ops.size := (Array.getElem?_eq_some_iff.1 ho).1
    simp [hlt] at hl
  · intro j o ho hl
    have hlt : j < ops.size := (Array.getElem?_eq_some_iff.1 ho).1
    simp [hlt] at hl
  · have hmem : C.getD i 0 < m := hCm _ (by rw [List.getD_eq_getElem?_getD, List.getElem?_eq_getElem hi]; exact List.getElem_mem hi)
    obtain ⟨c, hc⟩ : ∃ c, c = C.getD i 0 := ⟨_, rfl⟩
    rw [← hc] at hmem ⊢
    have hlt : c < ops.size := by omega
    simp [hlt]
  · simp [hsz]
  · exact Nat.le_trans List.countP_le_length (by simp)
end Go.Proofs.Ytclfbjbbdfejkaa.Flow
