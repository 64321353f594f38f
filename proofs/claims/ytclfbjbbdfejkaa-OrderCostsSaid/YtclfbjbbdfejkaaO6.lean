/- A row of the call's own that holds items: one item is put in its place. -/
import Derived.Test.YtclfbjbbdfejkaaO5
import Derived.Test.YtclfbjbbdfejkaaFlowTwo
namespace Go.Proofs.Ytclfbjbbdfejkaa.Ord
open Go.RowKit

theorem heap_setCells (g : Nat) (t : TypeId) : ∀ (vs : List Value) (o : Nat) (w : World) (cs : Array Value), w.heap[g]? = some (.cells cs t (0, 0)) → o + vs.length ≤ cs.size →
    ∃ ds : Array Value, (w.setCells g o vs).heap[g]? = some (.cells ds t (0, 0)) ∧ ds.size = cs.size ∧ ∀ j, ds[j]? = if o ≤ j ∧ j < o + vs.length then vs[j - o]? else cs[j]?
  | [], o, w, cs, h, _ => ⟨cs, h, rfl, fun j => by rw [if_neg (by simp)]⟩
  | v :: r, o, w, cs, h, hl => by
    rw [List.length_cons] at hl
    obtain ⟨ds, h1, h2, h3⟩ := heap_setCells g t r (o + 1) (w.setCell ⟨g, o, none⟩ v) (cs.setIfInBounds o v) (heap_setCell_same w g o cs t v h) (by simp; omega)
    refine ⟨ds, h1, by rw [h2]; simp, fun j => ?_⟩
    rw [h3 j]
    by_cases e : j = o
    · subst e
      rw [if_neg (by omega), if_pos (by simp), Nat.sub_self, Array.getElem?_setIfInBounds_self, if_pos (by omega)]
      rfl
    · by_cases h4 : o + 1 ≤ j ∧ j < o + 1 + r.length
      · rw [if_pos h4, if_pos (by simp; omega), show j - o = (j - (o + 1)) + 1 by omega, List.getElem?_cons_succ]
      · rw [if_neg h4, if_neg (by simp; omega), Array.getElem?_setIfInBounds_ne (Ne.symm e)]
theorem size_setCells (g : Nat) (vs : List Value) (o : Nat) (w : World) : w.heap.size ≤ (w.setCells g o vs).heap.size := (below_setCells (B := 0) (b := g) (Nat.zero_le _) vs o w (Below.refl 0 w)).size
theorem grown_setCells (w : World) (g o : Nat) (vs : List Value) : w.grownBy (w.setCells g o vs) (some g) := by
  have hb := below_setCells (B := 0) (b := g) (Nat.zero_le _) vs o w (Below.refl 0 w)
  refine ⟨hb.os, hb.tape, hb.output, hb.size, fun k hk hne => ?_⟩
  have hne2 : k ≠ g := fun e => hne (by rw [e])
  exact (World.keptBut_setCells g (may := fun p => p.block = g) vs o w (fun _ _ => rfl)).block hk (fun _ hp e => hne2 (e.symm.trans hp))
/-- The slice of n items that begins its block. -/
abbrev sl (g n c : Nat) : Value := .slice (some ⟨g, 0, none⟩) n c
theorem OwnI.block {w : World} {base g n c : Nat} {L : List Item} (h : OwnI w base (sl g n c) n L) : ∃ cur, w.heap[g]? = some (.cells cur 24 (0, 0)) ∧ base ≤ g ∧ n ≤ c ∧ c ≤ maxLen ∧ cur.size = c * 5 ∧ cur.toList.take (n * 5) = L.flatMap Item.cells := by
  rcases h.2 with ⟨e, _⟩ | ⟨g2, cap, cur, e, h1, h2, h3, h4, h5, h6⟩
  · cases e
  · cases e
    exact ⟨cur, h2, h1, h3, h4, h5, h6⟩
theorem OwnI.small {w : World} {base g n c : Nat} {L : List Item} (h : OwnI w base (sl g n c) n L) : n ≤ c ∧ c ≤ 140737488355328 * 65536 - 1 := by
  obtain ⟨cur, _, _, h1, h2, _⟩ := h.block
  exact ⟨h1, by unfold maxLen at h2; omega⟩
theorem OwnI.lt {w : World} {base g n c : Nat} {L : List Item} (h : OwnI w base (sl g n c) n L) : base ≤ g ∧ g < w.heap.size := by
  obtain ⟨cur, h1, h2, _⟩ := h.block
  exact ⟨h2, (Array.getElem?_eq_some_iff.1 h1).1⟩
theorem OwnI.at {w : World} {base g n c : Nat} {L : List Item} (h : OwnI w base (sl g n c) n L) {k : Nat} (hk : k < L.length) : At w g (k * 5) L[k].cells := by
  intro i hi
  rw [Item.cells_length] at hi
  have := World.ownsRow.cells h (g := g) rfl (k * 5 + i) _ (its_cell' L k i hk hi)
  rw [add_off, Nat.zero_add] at this
  exact this
theorem OwnI.there {w : World} {base g n c : Nat} {L : List Item} (h : OwnI w base (sl g n c) n L) {k : Nat} (hk : k < n) : w.there g (k * 5) 5 := by
  intro j hj
  obtain ⟨cur, h1, _, h3, _, h5, _⟩ := h.block
  have : k * 5 + j < cur.size := by omega
  refine ⟨?_, ?_⟩
  · rw [cell_of_row w g _ cur 24 (0, 0) h1, Array.getElem?_eq_getElem this]; rfl
  · simp [World.frozen?, h1]
theorem flat_get (L : List Item) (j : Nat) : (L.flatMap Item.cells)[j]? = (L[j / 5]?).bind fun x => x.cells[j % 5]? := by
  induction L generalizing j with
  | nil => simp
  | cons x L ih =>
    rw [List.flatMap_cons]
    by_cases hj : j < 5
    · rw [List.getElem?_append_left (by rw [Item.cells_length]; exact hj), Nat.div_eq_of_lt hj, Nat.mod_eq_of_lt hj]; rfl
    · rw [List.getElem?_append_right (by rw [Item.cells_length]; omega), Item.cells_length, ih, show j / 5 = (j - 5) / 5 + 1 by omega, List.getElem?_cons_succ, show j % 5 = (j - 5) % 5 by omega]
/-- One item is put in its place. -/
theorem OwnI.put {w : World} {base g n c : Nat} {L : List Item} (h : OwnI w base (sl g n c) n L) {k : Nat} (hk : k < n) (x : Item) : OwnI (w.setCells g (k * 5) x.cells) base (sl g n c) n (L.set k x) := by
  have hl := h.len
  obtain ⟨cur, h1, h2, h3, h4, h5, h6⟩ := h.block
  obtain ⟨ds, e1, e2, e3⟩ := heap_setCells g 24 x.cells (k * 5) w cur h1 (by rw [Item.cells_length]; omega)
  refine ⟨by rw [its_len, List.length_set, hl], .inr ⟨g, c, ds, rfl, h2, e1, h3, h4, by rw [e2, h5], ?_⟩⟩
  apply List.ext_getElem?
  intro j
  rw [flat_get, List.getElem?_take]
  have h7 := congrArg (fun l : List Value => l[j]?) h6
  simp only [List.getElem?_take, flat_get] at h7
  split
  · rename_i hj
    rw [if_pos hj] at h7
    rw [Array.getElem?_toList, e3 j, Item.cells_length]
    rw [Array.getElem?_toList] at h7
    by_cases hj2 : k * 5 ≤ j ∧ j < k * 5 + 5
    · rw [if_pos hj2, List.getElem?_set, if_pos (by omega), if_pos (by omega), show j - k * 5 = j % 5 by omega]
      rfl
    · rw [if_neg hj2, List.getElem?_set_ne (by omega), h7]
  · rename_i hj
    rw [if_neg hj] at h7
    by_cases e : k = j / 5
    · omega
    · rw [List.getElem?_set_ne e, h7]
theorem OwnI.kept {w w1 : World} {base g n c : Nat} {L : List Item} {row : Option Nat} (h : OwnI w base (sl g n c) n L) (hg : w.grownBy w1 row) (hne : some g ≠ row) : OwnI w1 base (sl g n c) n L := World.ownsRow.kept h hg (.inr hne)
theorem grown_trans {w w1 w2 : World} {row : Option Nat} (h1 : w.grownBy w1 row) (h2 : w1.grownBy w2 row) : w.grownBy w2 row :=
  ⟨h2.os.trans h1.os, h2.tape.trans h1.tape, h2.output.trans h1.output, Nat.le_trans h1.size h2.size, fun k hk hne => (h2.block k (Nat.lt_of_lt_of_le hk h1.size) hne).trans (h1.block k hk hne)⟩
theorem grown_refl (w : World) (row : Option Nat) : w.grownBy w row := ⟨rfl, rfl, rfl, Nat.le_refl _, fun _ _ _ => rfl⟩
theorem below_grown' {w w1 : World} (h : Below w.heap.size w w1) (row : Option Nat) : w.grownBy w1 row := ⟨h.os, h.tape, h.output, h.size, fun k hk _ => h.block k hk⟩
theorem drawn_grown (w : World) (row : Option Nat) : w.grownBy { w with drawn := w.drawn + 1 } row := ⟨rfl, rfl, rfl, Nat.le_refl _, fun _ _ _ => rfl⟩
theorem OwnI.drawn {w : World} {base : Nat} {v : Value} {n : Nat} {L : List Item} (h : OwnI w base v n L) : OwnI { w with drawn := w.drawn + 1 } base v n L := h
/-- What a function that turns a row does: the row holds R; nothing else has turned. -/
def Turns (w : World) (base g n c : Nat) (R : List Item) (e : Ending) (w' : World) : Prop := e = .returned (.tuple #[]) ∧ OwnI w' base (sl g n c) n R ∧ w.grownBy w' (some g)
end Go.Proofs.Ytclfbjbbdfejkaa.Ord
