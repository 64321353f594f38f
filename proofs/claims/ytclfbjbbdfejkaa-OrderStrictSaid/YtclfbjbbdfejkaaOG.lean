/- What stays is deleted. -/
import Derived.Test.YtclfbjbbdfejkaaOF
namespace Go.Proofs.Ytclfbjbbdfejkaa.Ord
open Go.RowKit

theorem run_clear_items (w : World) (b o n c : Nat) (hn : 0 < n) (ht : w.there b o (n * 5)) (ty : TypeId) :
    (Builtin.clear_ #[22] ty #[.slice (some ⟨b, o, none⟩) n c]).run Try.prog w = .ok (.tuple #[]) (w.setCells b o (Builtin.zeroCells zeroE.cells n).toList) := by
  obtain ⟨i0, hi, hz0, hz1, hz2⟩ := info_parts infoE
  have hlen : (Builtin.zeroCells zeroE.cells n).size = n * 5 := by simp [Builtin.zeroCells, zeroE, Value.cells]
  have hone : ∀ v ∈ (Builtin.zeroCells zeroE.cells n).toList, v.oneCell' = true := by
    intro v hv
    unfold Builtin.zeroCells at hv
    rw [Array.toList_map, List.mem_map] at hv
    obtain ⟨i, _, rfl⟩ := hv
    have h5 : i % zeroE.cells.size < 5 := Nat.mod_lt _ (by decide)
    generalize i % zeroE.cells.size = r at h5
    match r, h5 with
    | 0, _ => rfl
    | 1, _ => rfl
    | 2, _ => rfl
    | 3, _ => rfl
    | 4, _ => rfl
  have hst := run_storeCells_cells (P := Try.prog) b o (Builtin.zeroCells zeroE.cells n).toList 0 w (fun j hj => (ht j (by simpa [hlen] using hj)).1) (fun j hj => (ht j (by simpa [hlen] using hj)).2) hone
  simp only [Nat.add_zero] at hst
  obtain ⟨m, rfl⟩ : ∃ m, n = m + 1 := ⟨n - 1, by omega⟩
  have hv : (zeroValue 24).run Try.prog w = .ok zeroE w := by simp [zeroValue, typeInfo, hi, hz0]
  simp [Builtin.clear_, run_underlying Try.underlying22, hv, hst]
theorem wpList_clear_items {w : World} {ops : Array Oper} {rest : List Oper} {o : Oper} {a : Act} {Q : Exit → Act → World → Prop} (hgd : o.guard = none) (x : Operand) (ho : o.op = .call { callee := .builtin .clear, args := #[x], argTypes := #[22] })
    (b of n c : Nat) (hx : a.eval x = .slice (some ⟨b, of, none⟩) n c) (hn : 0 < n) (ht : w.there b of (n * 5)) (h : wpList Try.prog ops Q rest (a.put o.dst (.tuple #[])) (w.setCells b of (Builtin.zeroCells zeroE.cells n).toList)) : wpList Try.prog ops Q (o :: rest) a w := by
  refine wpList_plain hgd fun K hK => ?_
  have hrun := run_clear_items w b of n c hn ht o.type
  unfold Oper.wp
  simp [execOp, ho, resolve, invoke, builtin, hx, hrun, Result.andThen]
  exact hK _ _ h
/-- A row's first items, behind what was put behind them. -/
theorem OwnI.head {w : World} {base g n c : Nat} {L : List Item} (h : OwnI w base (sl g n c) n L) {j : Nat} (hj : j ≤ n) (vs : List Value) (hl : j * 5 + vs.length ≤ c * 5) : OwnI (w.setCells g (j * 5) vs) base (sl g j c) j (L.take j) := by
  have hlen := h.len
  obtain ⟨cur, h1, h2, h3, h4, h5, h6⟩ := h.block
  obtain ⟨ds, e1, e2, e3⟩ := heap_setCells g 24 vs (j * 5) w cur h1 (by omega)
  refine ⟨by rw [its_len, List.length_take]; omega, .inr ⟨g, c, ds, rfl, h2, e1, by omega, h4, by rw [e2, h5], ?_⟩⟩
  apply List.ext_getElem?
  intro t
  have h7 := congrArg (fun l : List Value => l[t]?) h6
  simp only [List.getElem?_take, flat_get] at h7 ⊢
  split
  · rename_i ht
    rw [if_pos (show t < n * 5 by omega)] at h7
    rw [Array.getElem?_toList, e3 t, if_neg (by omega), ← Array.getElem?_toList, h7, if_pos (by omega)]
  · rename_i ht
    rw [if_neg (by omega)]
    rfl
/-- A row's own bound, behind a world with more. -/
theorem OwnI.grown {w w1 : World} {base g n c : Nat} {L : List Item} (h : OwnI w base (sl g n c) n L) (hb : Below w.heap.size w w1) : OwnI w1 base (sl g n c) n L := h.below hb
/-- An item goes? -/
def goes (x : Item) : Bool := !stays x
theorem filter_all {L : List Item} (h : ∀ x ∈ L, stays x = false) : L.filter goes = L := List.filter_eq_self.2 fun x hx => by unfold goes; rw [h x hx]; rfl
theorem filter_snoc (L : List Item) (x : Item) : (L ++ [x]).filter goes = if stays x = true then L.filter goes else L.filter goes ++ [x] := by
  rw [List.filter_append]
  cases hs : stays x <;> simp [goes, hs]
/-- One more is put ahead. -/
theorem take_set {M : List Item} {j : Nat} (hj : j < M.length) (x : Item) : (M.set j x).take (j + 1) = M.take j ++ [x] := by
  rw [List.take_succ_eq_append_getElem (by simpa using hj), List.getElem_set_self, List.take_set_of_le (Nat.le_refl _)]
theorem drop_set {M : List Item} {j k : Nat} (hjk : j < k) (x : Item) : (M.set j x).drop k = M.drop k := List.drop_set_of_lt hjk
end Go.Proofs.Ytclfbjbbdfejkaa.Ord
