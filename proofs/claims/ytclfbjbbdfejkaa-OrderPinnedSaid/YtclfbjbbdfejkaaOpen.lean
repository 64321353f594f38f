/- The arguments of this seat's laws, opened: items in a slice, an item. -/
import Derived.Test.YtclfbjbbdfejkaaO3
import Derived.Deep.Slices
import Derived.Deep.Strs
import Derived.Deep.Fields
import Derived.ChangeSame
namespace Go.Proofs.Ytclfbjbbdfejkaa.Ord
open Go.ChangeShapes Go.WideShapes Go.Deep Go.RowKit

theorem spot_of {w : World} {x : Addr} {v : Value} (h : w.cell? x = some v) : ∃ b o, x = ⟨b, o, none⟩ := by
  have hs : x.spot = none := by
    unfold World.cell? at h
    cases hsp : x.spot with
    | none => rfl
    | some s =>
      rw [hsp] at h
      split at h
      · simp at h
      · cases h
  exact ⟨x.block, x.off, by cases x; simp_all⟩
theorem list_of {α : Type} {P : Nat → α → Prop} : ∀ (n : Nat), (∀ i, i < n → ∃ e, P i e) → ∃ L : List α, L.length = n ∧ ∀ i, (h : i < L.length) → P i L[i]
  | 0, _ => ⟨[], rfl, fun i h => absurd h (by simp)⟩
  | n + 1, h => by
    obtain ⟨L, hl, hp⟩ := list_of n (fun i hi => h i (by omega))
    obtain ⟨e, he⟩ := h n (by omega)
    refine ⟨L ++ [e], by simp [hl], fun i hi => ?_⟩
    rcases Nat.lt_or_ge i L.length with h1 | h1
    · rw [List.getElem_append_left h1]; exact hp i h1
    · have : i = n := by simp at hi; omega
      subst this
      rw [List.getElem_append_right h1]
      simpa using he
section
variable {H : Type} {enc : TypeId × Value → H} {w : World} {base : Nat} {spare : Nat → Bool} {held : Bool}
theorem open_item {fuel : Nat} {cs : List Value} {x : DataW H × List MemPlace} (h : DataW.trod enc Try.prog w base spare held fuel 24 cs = some x) : ∃ e : Item, cs = e.cells := by
  obtain ⟨xs, n, _, _, hlen, hx5, hf⟩ := DataW.trod_struct Try.underlying24 h
  have hC : Try.prog.cellsOf 24 = 5 := by kernel_rfl
  have hC2 : Try.prog.cellsOf 2 = 1 := by kernel_rfl
  have hC3 : Try.prog.cellsOf 3 = 1 := by kernel_rfl
  have hC4 : Try.prog.cellsOf 4 = 1 := by kernel_rfl
  rw [hC] at hlen
  have hx5' : xs.length = 5 := hx5
  match cs, hlen with
  | [c0, c1, c2, c3, c4], _ =>
    have g0' : DataW.trod enc Try.prog w base spare held n 2 (([c0, c1, c2, c3, c4].drop 0).take (Try.prog.cellsOf 2)) = xs[0]? := hf 0 _ rfl
    rw [hC2] at g0'
    have g0 : DataW.trod enc Try.prog w base spare held n 2 [c0] = some (xs[0]'(by omega)) := g0'.trans (List.getElem?_eq_getElem (by omega))
    clear g0'
    have g1' : DataW.trod enc Try.prog w base spare held n 3 (([c0, c1, c2, c3, c4].drop 1).take (Try.prog.cellsOf 3)) = xs[1]? := hf 1 _ rfl
    rw [hC3] at g1'
    have g1 : DataW.trod enc Try.prog w base spare held n 3 [c1] = some (xs[1]'(by omega)) := g1'.trans (List.getElem?_eq_getElem (by omega))
    clear g1'
    have g2' : DataW.trod enc Try.prog w base spare held n 2 (([c0, c1, c2, c3, c4].drop 2).take (Try.prog.cellsOf 2)) = xs[2]? := hf 2 _ rfl
    rw [hC2] at g2'
    have g2 : DataW.trod enc Try.prog w base spare held n 2 [c2] = some (xs[2]'(by omega)) := g2'.trans (List.getElem?_eq_getElem (by omega))
    clear g2'
    have g3' : DataW.trod enc Try.prog w base spare held n 3 (([c0, c1, c2, c3, c4].drop 3).take (Try.prog.cellsOf 3)) = xs[3]? := hf 3 _ rfl
    rw [hC3] at g3'
    have g3 : DataW.trod enc Try.prog w base spare held n 3 [c3] = some (xs[3]'(by omega)) := g3'.trans (List.getElem?_eq_getElem (by omega))
    clear g3'
    have g4' : DataW.trod enc Try.prog w base spare held n 4 (([c0, c1, c2, c3, c4].drop 4).take (Try.prog.cellsOf 4)) = xs[4]? := hf 4 _ rfl
    rw [hC4] at g4'
    have g4 : DataW.trod enc Try.prog w base spare held n 4 [c4] = some (xs[4]'(by omega)) := g4'.trans (List.getElem?_eq_getElem (by omega))
    clear g4'
    obtain ⟨a0, e0, _⟩ := DataW.trod_int Try.underlying2 g0
    obtain ⟨a1, e1, _⟩ := DataW.trod_int Try.underlying3 g1
    obtain ⟨a2, e2, _⟩ := DataW.trod_int Try.underlying2 g2
    obtain ⟨a3, e3, _⟩ := DataW.trod_int Try.underlying3 g3
    obtain ⟨a4, e4, _⟩ := DataW.trod_bool Try.underlying4 g4
    simp at e0 e1 e2 e3 e4
    subst e0 e1 e2 e3 e4
    exact ⟨⟨a0, a1, a2, a3, a4⟩, rfl⟩
theorem open_items {fuel : Nat} {A : Option Addr} {n c : Nat} {x : DataW H × List MemPlace} (h : DataW.trod enc Try.prog w base spare held fuel 22 [.slice A n c] = some x) : ∃ L, Its w A n c L := by
  rcases open_slice Try.underlying22 h with ⟨e, _⟩ | ⟨a, len, cap, m, k, D, Pl, e, _, hl, hm, hmm, _, hc⟩
  · simp at e
    obtain ⟨rfl, rfl, rfl⟩ := e
    exact ⟨[], rfl, Nat.le_refl _, by omega, fun _ => rfl, fun _ e => (by cases e)⟩
  · simp at e
    obtain ⟨rfl, rfl, rfl⟩ := e
    have hlm : n ≤ m := by rw [hmm]; split <;> omega
    have hC : Try.prog.cellsOf 24 = 5 := by kernel_rfl
    rw [hC] at hc
    obtain ⟨L, hL, hP⟩ := list_of (P := fun i (e : Item) => ∀ j, (h : j < 5) → w.cell? (a.add (i * 5 + j)) = some (e.cells[j]'h)) n (fun i hi => by
      obtain ⟨cs, hcs, ht⟩ := hc i (by omega)
      obtain ⟨e, rfl⟩ := open_item ht
      obtain ⟨_, hcl, hat⟩ := World.cells?_some hcs
      refine ⟨e, fun j hj => ?_⟩
      have := hat j hj
      rw [Go.Deep.add_add] at this
      exact this.trans (List.getElem?_eq_getElem (by rw [Item.cells_length]; exact hj)))
    refine ⟨L, hL, hl, by unfold maxLen at hm; omega, fun e => (by cases e), fun ad e h0 => ?_⟩
    cases e
    have h00 := (hP 0 (by omega)) 0 (by decide)
    obtain ⟨b, o, rfl⟩ := spot_of (x := a) (by rw [show a.add (0 * 5 + 0) = a from rfl] at h00; exact h00)
    refine ⟨b, o, rfl, fun j hj i hi => ?_⟩
    rw [Item.cells_length] at hi
    have := (hP j hj) i hi
    rw [add_off, show o + (j * 5 + i) = o + j * 5 + i by omega] at this
    exact this
theorem open_item_agg {r : Reach} {b0 : Nat} {v : Value} {d : DataW H} {p : List MemPlace} (hv : Value.okWide Try.prog w r b0 24 v) (h : DataW.Trod enc Try.prog w base spare held 24 v d p) : ∃ e : Item, v = .agg e.cells.toArray := by
  obtain ⟨cs, rfl, _⟩ := okWide_struct Try.underlying24 hv
  obtain ⟨fuel, hf⟩ := h
  obtain ⟨e, he⟩ := open_item hf
  exact ⟨e, by rw [← he]; simp [Value.cells]⟩
end
end Go.Proofs.Ytclfbjbbdfejkaa.Ord
