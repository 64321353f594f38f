/- Items in memory; appends to rows of the call's own: numbers, items. -/
import Derived.Test.YtclfbjbbdfejkaaO2
import Derived.Maps.AppendAt
import Derived.Great.BuildSlice
import Derived.Laws.AppendOwnNone
namespace Go.Proofs.Ytclfbjbbdfejkaa.Ord
open Go.RowKit

/-- The slice at A holds these items. -/
structure Its (w : World) (A : Option Addr) (n c : Nat) (l : List Item) : Prop where
  len : l.length = n
  le : n ≤ c
  small : c ≤ 9223372036854775807
  nil : A = none → c = 0
  spot : ∀ ad, A = some ad → 0 < n → ∃ b o, ad = ⟨b, o, none⟩ ∧ ∀ j, (h : j < l.length) → At w b (o + j * 5) l[j].cells
theorem Its.below {w w1 : World} {A : Option Addr} {n c : Nat} {l : List Item} (h : Its w A n c l) (hb : Below w.heap.size w w1) : Its w1 A n c l :=
  ⟨h.len, h.le, h.small, h.nil, fun ad e h0 => by
    obtain ⟨b, o, e2, hc⟩ := h.spot ad e h0
    exact ⟨b, o, e2, fun j hj => (hc j hj).below hb⟩⟩
theorem infoN : (Try.prog.info? 2).map (fun i => (i.zero, i.size, i.bytes)) = some (some (.int .i64 0), 1, 8) := by kernel_rfl
def zeroE : Value := .agg #[.int .i64 0, .int .i64 0, .int .i64 0, .int .i64 0, .bool false]
theorem infoE : (Try.prog.info? 24).map (fun i => (i.zero, i.size, i.bytes)) = some (some zeroE, 5, 40) := by kernel_rfl

theorem unguard {P : Program} {w : World} {ops : Array Oper} {rest : List Oper} {o : Oper} {a : Act} {Q : Exit → Act → World → Prop} (hw : Region.wanted o (yielded ops a.tmps) = true) (h : wpList P ops Q ({ o with guard := none } :: rest) a w) : wpList P ops Q (o :: rest) a w := by
  have h1 : Region.wanted { o with guard := none } (yielded ops a.tmps) = true := rfl
  unfold wpList at h ⊢
  rw [if_pos h1] at h
  rw [if_pos hw]
  exact h
theorem below_grown {w0 w w' : World} {B : Nat} {row : Option Nat} (hb : Below B w0 w) (hg : w.grownBy w' row) (hB : B ≤ w.heap.size) (hr : ∀ k, row = some k → B ≤ k) : Below B w0 w' := hb.grown hg hB hr
theorem Own.ge {w : World} {k : IntKind} {e : TypeId} {base : Nat} {v : Value} {n : Nat} {l : List Int} (h : Own w k e base v n l) : ∀ j, v.ownBlock = some j → base ≤ j := fun j hj => (World.ownsRow.lt h j hj).1
/-- What a slice that is appended holds, cell by cell. -/
def Src (w : World) (A : Option Addr) (m c size : Nat) (news : List Value) : Prop :=
  (A = none ∧ m = 0 ∧ c = 0 ∧ news = []) ∨ ∃ ad, A = some ad ∧ news.length = m * size ∧ (∀ j u, news[j]? = some u → w.cell? (ad.add j) = some u) ∧ ∀ u ∈ news, u.oneCell' = true
theorem append_src {w : World} {ops : Array Oper} {rest : List Oper} {o : Oper} {a : Act} {Q : Exit → Act → World → Prop} (hgw : Region.wanted o (yielded ops a.tmps) = true) (s x : Operand) (t e : TypeId) (z : Value) (size bytes : Nat)
    (ho : o.op = .call { callee := .builtin .append, args := #[s, x], argTypes := #[t, t] }) (ht : Try.prog.underlying t = some (.slice e)) (hie : (Try.prog.info? e).map (fun i => (i.zero, i.size, i.bytes)) = some (some z, size, bytes)) (hzs : z.cells.size = size) (hsz : 0 < size)
    (base : Nat) (v : Value) (n : Nat) (xs : List Value) (hs : a.eval s = v) (hown : w.ownsRow base e size v n xs)
    (A : Option Addr) (m c : Nat) (news : List Value) (hx : a.eval x = .slice A m c) (hr : Src w A m c size news) (hm : n + m ≤ maxLen) (hb : (n + m) * bytes ≤ 140737488355328) (hbase : base ≤ w.heap.size)
    (h : ∀ v' w', w'.ownsRow base e size v' (n + m) (xs ++ news) → w.grownBy w' v.ownBlock → wpList Try.prog ops Q rest (a.put o.dst v') w') : wpList Try.prog ops Q (o :: rest) a w := by
  obtain ⟨i0, hi, hz0, hz1, hz2⟩ := info_parts hie
  refine unguard hgw ?_
  have hgd : ({ o with guard := none } : Oper).guard = none := rfl
  rcases hr with ⟨rfl, rfl, rfl, rfl⟩ | ⟨ad, rfl, hl, hc, h1⟩
  · refine wpList_append_own_none hgd s x t ho base e i0 size ht hi v n xs hs hown hx ?_
    exact h v w (by simpa using hown) (World.grownBy.refl _ _)
  · refine wpList_append_own _ hgd s x t ho base e i0 z size bytes ht hi hz0 hz1 hz2 hzs hsz v n _ hs hown ad m c news hx hl hc h1 hm hb hbase ?_
    intro v' w' h1 h2 _
    exact h v' w' h1 h2
theorem Rd.src {w : World} {k : IntKind} {A : Option Addr} {n c : Nat} {l : List Int} (h : Rd w k A n c l) : Src w A n c 1 (l.map (Value.int k)) := by
  cases A with
  | none =>
    obtain ⟨rfl, rfl, rfl⟩ := h.len0
    exact .inl ⟨rfl, rfl, rfl, rfl⟩
  | some ad => exact .inr ⟨ad, rfl, by simp [h.len], h.cells, ints_one _ _⟩
theorem its_cell (l : List Item) (j : Nat) (u : Value) (h : (l.flatMap Item.cells)[j]? = some u) : ∃ (k : Nat) (hk : k < l.length) (i : Nat) (hi : i < 5), j = k * 5 + i ∧ u = l[k].cells[i]'(by rw [Item.cells_length]; exact hi) := by
  induction l generalizing j with
  | nil => simp at h
  | cons e l ih =>
    rw [List.flatMap_cons] at h
    by_cases hj : j < 5
    · rw [List.getElem?_append_left (by rw [Item.cells_length]; exact hj), List.getElem?_eq_getElem (by rw [Item.cells_length]; exact hj)] at h
      exact ⟨0, by simp, j, hj, by omega, (Option.some.inj h).symm⟩
    · rw [List.getElem?_append_right (by rw [Item.cells_length]; omega), Item.cells_length] at h
      obtain ⟨k, hk, i, hi, e1, e2⟩ := ih (j - 5) h
      exact ⟨k + 1, by simpa using hk, i, hi, by omega, e2⟩
theorem its_cell' (l : List Item) (k i : Nat) (hk : k < l.length) (hi : i < 5) : (l.flatMap Item.cells)[k * 5 + i]? = some (l[k].cells[i]'(by rw [Item.cells_length]; exact hi)) := by
  induction l generalizing k with
  | nil => simp at hk
  | cons e l ih =>
    rw [List.flatMap_cons]
    match k, hk with
    | 0, _ => rw [List.getElem?_append_left (by rw [Item.cells_length]; omega), List.getElem?_eq_getElem (by rw [Item.cells_length]; omega)]; simp
    | k + 1, hk =>
      rw [List.getElem?_append_right (by rw [Item.cells_length]; omega), Item.cells_length, show (k + 1) * 5 + i - 5 = k * 5 + i by omega]
      exact ih k (by simpa using hk)
theorem its_len (l : List Item) : (l.flatMap Item.cells).length = l.length * 5 := by
  induction l with
  | nil => rfl
  | cons e l ih => rw [List.flatMap_cons, List.length_append, ih, Item.cells_length, List.length_cons]; omega
theorem its_one (l : List Item) : ∀ u ∈ l.flatMap Item.cells, u.oneCell' = true := by
  intro u hu
  obtain ⟨e, _, h⟩ := List.mem_flatMap.1 hu
  exact item_one e u h
theorem Its.src {w : World} {A : Option Addr} {n c : Nat} {l : List Item} (h : Its w A n c l) : Src w A n c 5 (l.flatMap Item.cells) := by
  cases A with
  | none =>
    have h1 := h.nil rfl
    have h2 := h.le
    have h3 := h.len
    obtain rfl : n = 0 := by omega
    obtain rfl := List.eq_nil_of_length_eq_zero h3
    exact .inl ⟨rfl, rfl, h1, rfl⟩
  | some ad =>
    refine .inr ⟨ad, rfl, by rw [its_len, h.len], fun j u hu => ?_, its_one l⟩
    obtain ⟨k, hk, i, hi, rfl, rfl⟩ := its_cell l j u hu
    obtain ⟨b, o, rfl, hc⟩ := h.spot ad rfl (by have := h.len; omega)
    rw [add_off, show o + (k * 5 + i) = o + k * 5 + i by omega]
    exact hc k hk i (by rw [Item.cells_length]; exact hi)
/-- A row of the call's own that holds items. -/
def OwnI (w : World) (base : Nat) (v : Value) (n : Nat) (l : List Item) : Prop := w.ownsRow base 24 5 v n (l.flatMap Item.cells)
theorem OwnI.len {w : World} {base : Nat} {v : Value} {n : Nat} {l : List Item} (h : OwnI w base v n l) : l.length = n := by
  have := h.1
  rw [its_len] at this
  omega
theorem OwnI.its {w : World} {base : Nat} {v : Value} {n : Nat} {l : List Item} (h : OwnI w base v n l) : ∃ A c, v = .slice A n c ∧ Its w A n c l ∧ (∀ ad, A = some ad → ∃ g, ad = ⟨g, 0, none⟩ ∧ base ≤ g) := by
  have hl := h.len
  rcases h.2 with ⟨rfl, rfl⟩ | ⟨g, cap, cur, rfl, hb, hg, h1, h2, h3, h4⟩
  · exact ⟨none, 0, rfl, ⟨hl, Nat.le_refl _, by omega, fun _ => rfl, fun _ e _ => (by cases e)⟩, fun _ e => (by cases e)⟩
  · refine ⟨_, cap, rfl, ⟨hl, h1, by have := h2; unfold maxLen at this; omega, fun e => (by cases e), fun ad e _ => ?_⟩, fun ad e => ?_⟩
    · cases e
      refine ⟨g, 0, rfl, fun j hj i hi => ?_⟩
      rw [Item.cells_length] at hi
      have := World.ownsRow.cells h (g := g) rfl (j * 5 + i) _ (its_cell' l j i hj hi)
      rw [add_off] at this
      rw [show 0 + j * 5 + i = 0 + (j * 5 + i) by omega]
      exact this
    · cases e
      exact ⟨g, rfl, hb⟩
theorem OwnI.below {w w1 : World} {base : Nat} {v : Value} {n : Nat} {l : List Item} (h : OwnI w base v n l) (hb : Below w.heap.size w w1) : OwnI w1 base v n l :=
  World.ownsRow.kept h (row := none) ⟨hb.os, hb.tape, hb.output, hb.size, fun i hi _ => hb.block i hi⟩ (by cases v.ownBlock <;> simp)
theorem own_empty (w : World) (e : TypeId) (size : Nat) {base : Nat} (hb : base ≤ w.heap.size) : (w.alloc (.cells #[] e)).ownsRow base e size (.slice (some ⟨w.heap.size, 0, none⟩) 0 0) 0 [] :=
  ⟨by simp, .inr ⟨w.heap.size, 0, #[], rfl, hb, heap_alloc_new _ _, Nat.le_refl _, by decide, by simp, by simp⟩⟩
theorem row_lower {w : World} {b b' : Nat} {e : TypeId} {size : Nat} {v : Value} {n : Nat} {xs : List Value} (h : w.ownsRow b e size v n xs) (hb : b' ≤ b) : w.ownsRow b' e size v n xs := by
  refine ⟨h.1, ?_⟩
  rcases h.2 with h1 | ⟨g, cap, cur, e1, h2, h3⟩
  · exact .inl h1
  · exact .inr ⟨g, cap, cur, e1, Nat.le_trans hb h2, h3⟩
end Go.Proofs.Ytclfbjbbdfejkaa.Ord
