/- A region that draws its order and holds calls that make memory: each operation is told once, by what it hands back, from whatever world the others have left. -/
import Derived.Orders
import Derived.Below
namespace Go.Proofs.Ytclfbjbbdfejkaa.Flow
open Go.RowKit

/-- What an operation hands back, and the world behind it. -/
def step (P : Program) (o : Oper) (a : Act) (w : World) (post : Value → World → Prop) : Prop :=
  match (execOp a.eval o).run P w with
  | .ok (.value v) w' => post v w'
  | .ok .skip w' => post undef w'
  | .ok (.enter f args) w' => Calls P f args w' fun e w'' => ∃ v, e = .returned v ∧ post v w''
  | _ => False

theorem step_wp {P : Program} {o : Oper} {a : Act} {w : World} {K : Act → World → Prop} {Q : Exit → Act → World → Prop} (h : step P o a w fun v w' => K (a.put o.dst v) w') : o.wp P a w K Q := by
  unfold step at h
  unfold Oper.wp
  generalize (execOp a.eval o).run P w = r at h
  cases r with
  | ok n w' =>
    cases n with
    | value v => exact h
    | skip => exact h
    | enter f args =>
      refine Calls.mono h fun e w'' he => ?_
      obtain ⟨v, rfl, hk⟩ := he
      exact hk
    | _ => exact h.elim
  | halt x w' => exact h.elim

theorem step_mono {P : Program} {o : Oper} {a : Act} {w : World} {p q : Value → World → Prop} (h : step P o a w p) (hpq : ∀ v w', p v w' → q v w') : step P o a w q := by
  unfold step at *
  generalize (execOp a.eval o).run P w = r at *
  cases r with
  | ok n w' =>
    cases n with
    | value v => exact hpq _ _ h
    | skip => exact hpq _ _ h
    | enter f args =>
      refine Calls.mono h fun e w'' he => ?_
      obtain ⟨v, rfl, hk⟩ := he
      exact ⟨v, rfl, hpq _ _ hk⟩
    | _ => exact h
  | halt x w' => exact h

/-- Does operation i wait for operation j? -/
def dep (ops : Array Oper) (i j : Nat) : Bool := ((ops[i]?).map fun o => o.after.toList.any fun e => Region.binds .any e && e.on == j).getD false

/-- Each operation writes a temporary of its own; whoever reads one waits for its writer, or its writer for them. -/
def fits (ops : Array Oper) (size : Nat) : Bool :=
  (List.range ops.size).all fun i => ((ops[i]?).map fun o =>
    (match o.dst with | some d => decide (d < size) | none => false) && (o.after.all fun e => !Region.binds .any e || decide (e.on < i)) &&
    (List.range ops.size).all fun j => ((ops[j]?).map fun oj => (i == j || oj.dst != o.dst) &&
      (match oj.dst with | some d => !(o.looksAt ops).contains d || (if j < i then dep ops i j else dep ops j i) | none => true)).getD true).getD true

section
variable {ops : Array Oper} {size : Nat}
theorem fits_at (h : fits ops size = true) {i : Nat} {o : Oper} (ho : ops[i]? = some o) :
    (∃ d, o.dst = some d ∧ d < size) ∧ (∀ e ∈ o.after, Region.binds .any e = true → e.on < i) ∧
    ∀ (j : Nat) (oj : Oper), ops[j]? = some oj → (i ≠ j → oj.dst ≠ o.dst) ∧ ∀ d, oj.dst = some d → d ∈ o.looksAt ops → (if j < i then dep ops i j else dep ops j i) = true := by
  have hi : i < ops.size := (Array.getElem?_eq_some_iff.1 ho).1
  have h1 := (List.all_eq_true.1 h) i (List.mem_range.2 hi)
  simp only [ho, Option.map_some, Option.getD_some, Bool.and_eq_true] at h1
  obtain ⟨⟨h2, h3⟩, h4⟩ := h1
  refine ⟨?_, ?_, ?_⟩
  · cases hd : o.dst with
    | none => rw [hd] at h2; simp at h2
    | some d => rw [hd] at h2; exact ⟨d, rfl, by simpa using h2⟩
  · intro e he hb
    have := (Array.all_eq_true_iff_forall_mem.1 h3) e he
    simpa [hb] using this
  · intro j oj hoj
    have hj : j < ops.size := (Array.getElem?_eq_some_iff.1 hoj).1
    have h5 := (List.all_eq_true.1 h4) j (List.mem_range.2 hj)
    simp only [hoj, Option.map_some, Option.getD_some, Bool.and_eq_true] at h5
    refine ⟨fun hne he => ?_, fun d hd hm => ?_⟩
    · have := h5.1
      simp [hne, he] at this
    · have h6 := h5.2
      rw [hd] at h6
      simpa [hm] using h6

theorem dep_spec {i j : Nat} (h : dep ops i j = true) : ∃ o, ops[i]? = some o ∧ ∃ e ∈ o.after, Region.binds .any e = true ∧ e.on = j := by
  unfold dep at h
  cases ho : ops[i]? with
  | none => simp [ho] at h
  | some o =>
    simp only [ho, Option.map_some, Option.getD_some, List.any_eq_true] at h
    obtain ⟨e, he, hb⟩ := h
    simp only [Bool.and_eq_true, beq_iff_eq] at hb
    exact ⟨o, rfl, e, Array.mem_toList_iff.1 he, hb.1, hb.2⟩
end

/-- What is known of a temporary when operation i comes up: what its writer handed back, or what it held ahead of the region. -/
def Known (ops : Array Oper) (a0 : Act) (G : Nat → Value → World → Prop) (i : Nat) (t : Tmp) (a : Act) (w : World) : Prop :=
  (∀ (j : Nat) (oj : Oper), ops[j]? = some oj → oj.dst = some t → j < i → G j (a.tmps.getD t undef) w) ∧
  ((∀ (j : Nat) (oj : Oper), ops[j]? = some oj → oj.dst = some t → ¬ j < i) → a.tmps.getD t undef = a0.tmps.getD t undef)

structure Inv (ops : Array Oper) (a0 : Act) (w0 : World) (G : Nat → Value → World → Prop) (listed : Array Bool) (a : Act) (w : World) : Prop where
  below : Below w0.heap.size w0 w
  defers : a.defers = a0.defers
  tsize : a.tmps.size = a0.tmps.size
  lsize : listed.size = ops.size
  got : ∀ (j : Nat) (o : Oper) (t : Tmp), ops[j]? = some o → o.dst = some t → listed.getD j false = true → G j (a.tmps.getD t undef) w
  old : ∀ t, (∀ (j : Nat) (o : Oper), ops[j]? = some o → o.dst = some t → listed.getD j false = false) → a.tmps.getD t undef = a0.tmps.getD t undef
  closed : ∀ (j : Nat) (o : Oper), ops[j]? = some o → listed.getD j false = true → ∀ e ∈ o.after, Region.binds .any e = true → listed.getD e.on false = true

theorem getD_same (xs : Array Value) (d : Nat) (v : Value) (h : d < xs.size) : (xs.setIfInBounds d v).getD d undef = v := by simp [h]
theorem getD_other (xs : Array Value) (d t : Nat) (v : Value) (h : d ≠ t) : (xs.setIfInBounds d v).getD t undef = xs.getD t undef := by simp [Array.getElem?_setIfInBounds_ne h]

theorem region_any {P : Program} {ops : Array Oper} {a0 : Act} {w0 : World} {G : Nat → Value → World → Prop} {Q : Exit → Act → World → Prop} (hB : fits ops a0.tmps.size = true)
    (stable : ∀ i v w w', G i v w → Below w.heap.size w w' → G i v w')
    (loc : ∀ (i : Nat) (o : Oper), ops[i]? = some o → ∀ a w, Below w0.heap.size w0 w → (∀ t ∈ o.looksAt ops, Known ops a0 G i t a w) →
      if Region.wanted o (yielded ops a.tmps) then step P o a w (fun v w' => Below w.heap.size w w' ∧ G i v w') else G i undef w)
    (fin : ∀ a w, Below w0.heap.size w0 w → a.defers = a0.defers → a.tmps.size = a0.tmps.size → (∀ (j : Nat) (o : Oper) (t : Tmp), ops[j]? = some o → o.dst = some t → G j (a.tmps.getD t undef) w) →
      (∀ t, (∀ (j : Nat) (o : Oper), ops[j]? = some o → o.dst ≠ some t) → a.tmps.getD t undef = a0.tmps.getD t undef) → Q .normal a w) :
    ∀ (fuel : Nat) (listed : Array Bool) (a : Act) (w : World), Inv ops a0 w0 G listed a w → (List.range ops.size).countP (fun i => !listed.getD i true) ≤ fuel → wpAny P .any ops Q fuel listed a w := by
  -- behind the last one
  have done : ∀ (listed : Array Bool) (a : Act) (w : World), Inv ops a0 w0 G listed a w → Region.ready .any ops listed = [] → Q .normal a w := by
    intro listed a w hI hr
    have hall : ∀ n j o, j ≤ n → ops[j]? = some o → listed.getD j false = true := by
      intro n
      induction n with
      | zero =>
        intro j o hj ho
        obtain rfl : j = 0 := by omega
        by_cases hl : listed.getD 0 false = true
        · exact hl
        · have hm : 0 ∈ Region.ready .any ops listed := by
            have hlt : 0 < listed.size := by rw [hI.lsize]; exact (Array.getElem?_eq_some_iff.1 ho).1
            rw [mem_ready]
            refine ⟨by simpa [hlt] using hl, o, ho, fun e he hb => ?_⟩
            have := (fits_at hB ho).2.1 e he hb
            omega
          rw [hr] at hm; cases hm
      | succ n ih =>
        intro j o hj ho
        by_cases hl : listed.getD j false = true
        · exact hl
        · have hm : j ∈ Region.ready .any ops listed := by
            have hlt : j < listed.size := by rw [hI.lsize]; exact (Array.getElem?_eq_some_iff.1 ho).1
            rw [mem_ready]
            refine ⟨by simpa [hlt] using hl, o, ho, fun e he hb => ?_⟩
            have h1 := (fits_at hB ho).2.1 e he hb
            have h2 : e.on < ops.size := Nat.lt_trans h1 (Array.getElem?_eq_some_iff.1 ho).1
            exact ih e.on _ (by omega) (Array.getElem?_eq_getElem h2)
          rw [hr] at hm; cases hm
    refine fin a w hI.below hI.defers hI.tsize (fun j o t ho ht => hI.got j o t ho ht (hall j j o (Nat.le_refl _) ho)) (fun t ht => hI.old t fun j o ho hd => absurd hd (ht j o ho))
  intro fuel
  induction fuel with
  | zero =>
    intro listed a w hI hc
    have hr : Region.ready .any ops listed = [] := by
      apply List.eq_nil_iff_forall_not_mem.2
      intro i hi
      have h1 := (mem_ready.1 hi).1
      have hlt : i < ops.size := by obtain ⟨o, ho, _⟩ := (mem_ready.1 hi).2; exact (Array.getElem?_eq_some_iff.1 ho).1
      have h2 := List.countP_eq_zero.1 (Nat.le_zero.1 hc) i (List.mem_range.2 hlt)
      rw [h1] at h2
      exact h2 rfl
    exact ⟨hr, done listed a w hI hr⟩
  | succ fuel ih =>
    intro listed a w hI hc
    refine ⟨done listed a w hI, fun i hi => ?_⟩
    obtain ⟨h0, o, ho, hdeps⟩ := mem_ready.1 hi
    have hlt : i < ops.size := (Array.getElem?_eq_some_iff.1 ho).1
    have hll : i < listed.size := by rw [hI.lsize]; exact hlt
    have h0' : listed.getD i false = false := by simpa [hll] using h0
    obtain ⟨⟨d, hd, hds⟩, hlow, hpair⟩ := fits_at hB ho
    have hknown : ∀ t ∈ o.looksAt ops, Known ops a0 G i t a w := by
      intro t ht
      refine ⟨fun j oj hj hjt hlt2 => ?_, fun hno => ?_⟩
      · have h1 := (hpair j oj hj).2 t hjt ht
        rw [if_pos hlt2] at h1
        obtain ⟨o', ho', e, he, hb, hon⟩ := dep_spec h1
        rw [ho] at ho'; cases ho'
        exact hI.got j oj t hj hjt (by rw [← hon]; exact hdeps e he hb)
      · refine hI.old t fun j oj hj hjt => ?_
        have h1 := (hpair j oj hj).2 t hjt ht
        rw [if_neg (hno j oj hj hjt)] at h1
        obtain ⟨o', ho', e, he, hb, hon⟩ := dep_spec h1
        rw [hj] at ho'; cases ho'
        cases hl : listed.getD j false with
        | false => rfl
        | true =>
          have := hI.closed j oj hj hl e he hb
          rw [hon, h0'] at this
          cases this
    have hL := loc i o ho a w hI.below hknown
    -- the invariant behind it
    have hnext : ∀ v w', Below w.heap.size w w' → G i v w' → wpAny P .any ops Q fuel (listed.setIfInBounds i true) (a.put o.dst v) w' := by
      intro v w' hb hg
      have hput : a.put o.dst v = { a with tmps := a.tmps.setIfInBounds d v } := by rw [hd]; rfl
      have hda : d < a.tmps.size := by rw [hI.tsize]; exact hds
      refine ih _ _ _ ⟨?_, ?_, ?_, ?_, ?_, ?_, ?_⟩ ?_
      · exact ⟨hb.os.trans hI.below.os, hb.tape.trans hI.below.tape, hb.output.trans hI.below.output, Nat.le_trans hI.below.size hb.size, fun k hk => (hb.block k (Nat.lt_of_lt_of_le hk hI.below.size)).trans (hI.below.block k hk)⟩
      · rw [hput]; exact hI.defers
      · rw [hput]; simpa using hI.tsize
      · simpa using hI.lsize
      · intro j oj t hj hjt hl
        rw [hput]
        by_cases hji : j = i
        · subst hji
          rw [ho] at hj; cases hj
          rw [hd] at hjt; cases hjt
          rw [getD_same _ _ _ hda]
          exact hg
        · have hne : d ≠ t := fun e => (hpair j oj hj).1 (Ne.symm hji) (by rw [hjt, hd, e])
          rw [getD_other _ _ _ _ hne]
          rw [getD_set_ne false (Ne.symm hji)] at hl
          exact stable _ _ _ _ (hI.got j oj t hj hjt hl) hb
      · intro t ht
        rw [hput]
        have hne : d ≠ t := fun e => by
          have := ht i o ho (by rw [hd, e])
          simp [hll] at this
        rw [getD_other _ _ _ _ hne]
        refine hI.old t fun j oj hj hjt => ?_
        have := ht j oj hj hjt
        by_cases hji : j = i
        · subst hji; exact h0'
        · rw [getD_set_ne false (Ne.symm hji)] at this; exact this
      · intro j oj hj hl e he hb2
        by_cases hji : j = i
        · subst hji
          rw [ho] at hj; cases hj
          exact getD_set_true (hdeps e he hb2)
        · rw [getD_set_ne false (Ne.symm hji)] at hl
          exact getD_set_true (hI.closed j oj hj hl e he hb2)
      · have hcount : (List.range ops.size).countP (fun k => !(listed.setIfInBounds i true).getD k true) < (List.range ops.size).countP (fun k => !listed.getD k true) := by
          have hsub : ∀ k, (!(listed.setIfInBounds i true).getD k true) = true → (!listed.getD k true) = true := by
            intro k hk
            by_cases hki : k = i
            · subst hki; simp [hll] at hk
            · rw [getD_set_ne true (Ne.symm hki)] at hk; exact hk
          have key : ∀ l : List Nat, i ∈ l → l.countP (fun k => !(listed.setIfInBounds i true).getD k true) < l.countP (fun k => !listed.getD k true) := by
            intro l
            induction l with
            | nil => intro h; cases h
            | cons x l ihl =>
              intro hm
              rw [List.countP_cons, List.countP_cons]
              have hle : l.countP (fun k => !(listed.setIfInBounds i true).getD k true) ≤ l.countP (fun k => !listed.getD k true) := List.countP_mono_left fun k _ => hsub k
              by_cases hx : x = i
              · subst hx
                have e1 : (!(listed.setIfInBounds x true).getD x true) = false := by simp [hll]
                have e2 : (!listed.getD x true) = true := by rw [h0]; rfl
                rw [e1, e2]
                simp only [Bool.false_eq_true, if_false, if_true]
                omega
              · have := ihl (by simpa [Ne.symm hx] using hm)
                have h3 : (if (!(listed.setIfInBounds i true).getD x true) = true then 1 else 0) = (if (!listed.getD x true) = true then 1 else 0) := by rw [getD_set_ne true (Ne.symm hx)]
                rw [h3]
                omega
          exact key _ (List.mem_range.2 hlt)
        omega
    unfold wpOp
    simp only [ho]
    split
    · rename_i hw
      rw [if_pos hw] at hL
      exact .inl (step_wp (step_mono hL fun v w' h => hnext v w' h.1 h.2))
    · rename_i hw
      rw [if_neg hw] at hL
      exact hnext undef w (Below.refl _ _) hL

/-- **The law**: the region's wp. -/
theorem wp_region_flow {P : Program} {id : Nat} {ops : Array Oper} {a0 : Act} {w0 : World} {Q : Exit → Act → World → Prop} (hm : P.follows .mixedOrders = true) (G : Nat → Value → World → Prop) (hB : fits ops a0.tmps.size = true)
    (stable : ∀ i v w w', G i v w → Below w.heap.size w w' → G i v w')
    (loc : ∀ (i : Nat) (o : Oper), ops[i]? = some o → ∀ a w, Below w0.heap.size w0 w → (∀ t ∈ o.looksAt ops, Known ops a0 G i t a w) →
      if Region.wanted o (yielded ops a.tmps) then step P o a w (fun v w' => Below w.heap.size w w' ∧ G i v w') else G i undef w)
    (fin : ∀ a w, Below w0.heap.size w0 w → a.defers = a0.defers → a.tmps.size = a0.tmps.size → (∀ (j : Nat) (o : Oper) (t : Tmp), ops[j]? = some o → o.dst = some t → G j (a.tmps.getD t undef) w) →
      (∀ t, (∀ (j : Nat) (o : Oper), ops[j]? = some o → o.dst ≠ some t) → a.tmps.getD t undef = a0.tmps.getD t undef) → Q .normal a w) : (Code.region id ops true).wp P Q a0 w0 := by
  refine wp_region_any hm ?_
  refine region_any hB stable loc fin _ _ _ _ ⟨⟨rfl, rfl, rfl, Nat.le_refl _, fun _ _ => rfl⟩, rfl, rfl, by simp, ?_, fun _ _ => rfl, ?_⟩ ?_
  · intro j o t ho _ hl
    have hlt : j < ops.size := (Array.getElem?_eq_some_iff.1 ho).1
    simp [hlt] at hl
  · intro j o ho hl
    have hlt : j < ops.size := (Array.getElem?_eq_some_iff.1 ho).1
    simp [hlt] at hl
  · exact Nat.le_trans List.countP_le_length (by simp)
end Go.Proofs.Ytclfbjbbdfejkaa.Flow
namespace Go.Proofs.Ytclfbjbbdfejkaa.Flow
open Go.RowKit
section
variable {ops : Array Oper} {a0 a : Act} {w : World} {G : Nat → Value → World → Prop} {i : Nat} {t : Tmp}
theorem Known.before (h : Known ops a0 G i t a w) (hc : (ops.toList.all fun o => o.dst != some t) = true) : a.tmps.getD t undef = a0.tmps.getD t undef := by
  refine h.2 fun j oj hj hd => ?_
  have hm : oj ∈ ops.toList := by
    have hj2 : ops.toList[j]? = some oj := by simpa using hj
    exact List.mem_of_getElem? hj2
  have := (List.all_eq_true.1 hc) oj hm
  rw [hd] at this
  simp at this
theorem Known.later (h : Known ops a0 G i t a w) (k : Nat) (hc : ((List.range ops.size).all fun j => decide (k ≤ j) || ((ops[j]?).bind (·.dst)) != some t) = true) (hk : i ≤ k) : a.tmps.getD t undef = a0.tmps.getD t undef := by
  refine h.2 fun j oj hj hd hlt => ?_
  have := (List.all_eq_true.1 hc) j (List.mem_range.2 (Array.getElem?_eq_some_iff.1 hj).1)
  rw [hj] at this
  simp [hd] at this
  omega
theorem Known.by_ (h : Known ops a0 G i t a w) (j : Nat) (hj : (((ops[j]?).bind (·.dst)) == some t) = true) (hlt : j < i) : G j (a.tmps.getD t undef) w := by
  cases ho : ops[j]? with
  | none => rw [ho] at hj; simp at hj
  | some oj =>
    rw [ho] at hj
    exact h.1 j oj ho (by simpa using hj) hlt
theorem mem_looks {o : Oper} (h : (o.looksAt ops).contains t = true) : t ∈ o.looksAt ops := by simpa using h
theorem bool_get {xs : Array Value} {t : Tmp} {b : Bool} (h : xs.getD t undef = .bool b) : xs[t]? = some (.bool b) := by
  rw [Array.getD_eq_getD_getElem?] at h
  cases hx : xs[t]? with
  | none => rw [hx] at h; simp [undef] at h
  | some v => rw [hx] at h; simp at h; rw [h]
theorem wanted_free {o : Oper} (h : o.guard = none) (y : Nat → Option Bool) : Region.wanted o y = true := by simp [Region.wanted, h]
theorem wanted_by {o : Oper} {g : Nat} {b : Bool} (h : o.guard = some (g, b)) (ht : (((ops[g]?).bind (·.dst)) == some t) = true) (hb : a.tmps.getD t undef = .bool b) : Region.wanted o (yielded ops a.tmps) = true := by
  have h1 := bool_get hb
  have h2 : (ops[g]?).bind (·.dst) = some t := by simpa using ht
  simp [Region.wanted, h, yielded, h2, h1]
theorem act_eq {a : Act} (l : List Value) (hs : a.tmps.size = l.length) (hd : a.defers = []) (h : ∀ t, t < l.length → a.tmps.getD t undef = l.getD t undef) : a = { tmps := l.toArray, defers := [] } := by
  obtain ⟨ts, ds⟩ := a
  simp only at hs hd h
  subst hd
  congr 1
  apply Array.ext
  · simpa using hs
  · intro i h1 h2
    have := h i (by rw [← hs]; exact h1)
    simp [h1] at this
    rw [this]
    simp at h2
    simp [h2]
end
end Go.Proofs.Ytclfbjbbdfejkaa.Flow
namespace Go.Proofs.Ytclfbjbbdfejkaa.Flow
open Go.RowKit
theorem step_value {P : Program} {o : Oper} {a : Act} {w : World} {post : Value → World → Prop} {v : Value} (h : (execOp a.eval o).run P w = .ok (.value v) w) (hp : post v w) : step P o a w post := by
  unfold step; rw [h]; exact hp
theorem step_call {P : Program} {o : Oper} {a : Act} {w : World} {post : Value → World → Prop} {f : FuncId} {args : Array Value} (h : (execOp a.eval o).run P w = .ok (.enter f args) w) (hp : Calls P f args w fun e w'' => ∃ v, e = .returned v ∧ post v w'') : step P o a w post := by
  unfold step; rw [h]; exact hp
theorem unwanted_by {ops : Array Oper} {a : Act} {o : Oper} {g : Nat} {b c : Bool} {t : Tmp} (h : o.guard = some (g, b)) (ht : (((ops[g]?).bind (·.dst)) == some t) = true) (hb : a.tmps.getD t undef = .bool c) : Region.wanted o (yielded ops a.tmps) = (c == b) := by
  have h1 := bool_get hb
  have h2 : (ops[g]?).bind (·.dst) = some t := by simpa using ht
  simp [Region.wanted, h, yielded, h2, h1]
end Go.Proofs.Ytclfbjbbdfejkaa.Flow
namespace Go.Proofs.Ytclfbjbbdfejkaa.Flow
theorem old_at {ops : Array Oper} {a a0 : Act} (h : ∀ t, (∀ (j : Nat) (o : Oper), ops[j]? = some o → o.dst ≠ some t) → a.tmps.getD t undef = a0.tmps.getD t undef) (t : Tmp) (hc : (ops.toList.all fun o => o.dst != some t) = true) : a.tmps.getD t undef = a0.tmps.getD t undef := by
  refine h t fun j oj hj hd => ?_
  have hm : oj ∈ ops.toList := by
    have hj2 : ops.toList[j]? = some oj := by simpa using hj
    exact List.mem_of_getElem? hj2
  have := (List.all_eq_true.1 hc) oj hm
  rw [hd] at this
  simp at this
end Go.Proofs.Ytclfbjbbdfejkaa.Flow
