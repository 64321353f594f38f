/- The arguments of this seat's laws, opened: entries in a slice, an entry, what is asked for. -/
import Derived.Test.YtbfnjfmnblafaaaQ5
import Derived.Deep.Slices
import Derived.Deep.Strs
import Derived.Deep.Fields
import Derived.ChangeSame
namespace Go.Proofs.Ytbfnjfmnblafaaa.Qry
open Go.ChangeShapes Go.WideShapes Go.Deep Go.RowKit

theorem spot_of {w : World} {x : Addr} {v : Value} (h : w.cell? x = some v) : ∃ b o, x = ⟨b, o, none⟩ := by
  have hs : x.spot = none := by
    unfold World.cell? at h
    cases hsp : x.spot with
    | none => rfl
    | some s =>
      rw [hsp] at h
      split at h
      · simp at h
      · cases h
  exact ⟨x.block, x.off, by cases x; simp_all⟩
theorem list_of {α : Type} {P : Nat → α → Prop} : ∀ (n : Nat), (∀ i, i < n → ∃ e, P i e) → ∃ L : List α, L.length = n ∧ ∀ i, (h : i < L.length) → P i L[i]
  | 0, _ => ⟨[], rfl, fun i h => absurd h (by simp)⟩
  | n + 1, h => by
    obtain ⟨L, hl, hp⟩ := list_of n (fun i hi => h i (by omega))
    obtain ⟨e, he⟩ := h n (by omega)
    refine ⟨L ++ [e], by simp [hl], fun i hi => ?_⟩
    rcases Nat.lt_or_ge i L.length with h1 | h1
    · rw [List.getElem_append_left h1]; exact hp i h1
    · have : i = n := by simp at hi; omega
      subst this
      rw [List.getElem_append_right h1]
      simpa using he
/-- The numbers of what is asked for are 64 bits'. -/
def AskWf (a : Ask) : Prop := (Lit.int .i64 a.from_).wf = true ∧ (Lit.int .i64 a.to_).wf = true ∧ (Lit.int .i64 a.limit).wf = true
section
variable {H : Type} {enc : TypeId × Value → H} {w : World} {base : Nat} {spare : Nat → Bool} {held : Bool}
theorem open_texts {fuel : Nat} {cs : List Value} {x : DataW H × List MemPlace} (h : DataW.trod enc Try.prog w base spare held fuel 25 cs = some x) : ∃ A n c ss, cs = [.slice A n c] ∧ SRd w A n c ss := by
  rcases open_strs Try.underlying25 Try.underlying9 (by kernel_rfl) h with ⟨rfl, _⟩ | ⟨a, len, cap, m, Sx, rfl, _, hl, hm, hmm, _, hc⟩
  · exact ⟨none, 0, 0, [], rfl, rfl, Nat.le_refl _, by omega, fun _ => rfl, fun _ e => by cases e⟩
  · have hlm : len ≤ m := by rw [hmm]; split <;> omega
    refine ⟨some a, len, cap, (List.range len).map Sx, rfl, by simp, hl, by unfold maxLen at hm; omega, fun e => (by cases e), fun ad e h0 => ?_⟩
    cases e
    obtain ⟨b, o, rfl⟩ := spot_of (x := a) (by have := (hc 0 (by omega)).1; rwa [show a.add 0 = a from rfl] at this)
    refine ⟨b, o, rfl, fun j hj => ?_⟩
    have hjl : j < len := by simpa using hj
    have := (hc j (by omega)).1
    rw [add_off] at this
    simpa using this
theorem open_ent {fuel : Nat} {cs : List Value} {x : DataW H × List MemPlace} (h : DataW.trod enc Try.prog w base spare held fuel 29 cs = some x) : ∃ e : Ent, cs = e.cells ∧ SRd w e.sA e.sn e.sc e.ss := by
  obtain ⟨xs, n, _, _, hlen, hxl, hf⟩ := DataW.trod_struct Try.underlying29 h
  have hC : Try.prog.cellsOf 29 = 13 := by kernel_rfl
  have hC24 : Try.prog.cellsOf 24 = 5 := by kernel_rfl
  have hC27 : Try.prog.cellsOf 27 = 5 := by kernel_rfl
  have hC2 : Try.prog.cellsOf 2 = 1 := by kernel_rfl
  have hC3 : Try.prog.cellsOf 3 = 1 := by kernel_rfl
  have hC4 : Try.prog.cellsOf 4 = 1 := by kernel_rfl
  have hC25 : Try.prog.cellsOf 25 = 1 := by kernel_rfl
  rw [hC] at hlen
  have hx5 : xs.length = 5 := hxl
  match cs, hlen with
  | [c0, c1, c2, c3, c4, c5, c6, c7, c8, c9, c10, c11, c12], _ =>
    have h0' : DataW.trod enc Try.prog w base spare held n 24 (([c0, c1, c2, c3, c4, c5, c6, c7, c8, c9, c10, c11, c12].drop 0).take (Try.prog.cellsOf 24)) = xs[0]? := hf 0 _ rfl
    rw [hC24] at h0'
    have h0 : DataW.trod enc Try.prog w base spare held n 24 [c0, c1, c2, c3, c4] = some (xs[0]'(by omega)) := h0'.trans (List.getElem?_eq_getElem (by omega))
    clear h0'
    have h1' : DataW.trod enc Try.prog w base spare held n 27 (([c0, c1, c2, c3, c4, c5, c6, c7, c8, c9, c10, c11, c12].drop 5).take (Try.prog.cellsOf 27)) = xs[1]? := hf 1 _ rfl
    rw [hC27] at h1'
    have h1 : DataW.trod enc Try.prog w base spare held n 27 [c5, c6, c7, c8, c9] = some (xs[1]'(by omega)) := h1'.trans (List.getElem?_eq_getElem (by omega))
    clear h1'
    have h2' : DataW.trod enc Try.prog w base spare held n 2 (([c0, c1, c2, c3, c4, c5, c6, c7, c8, c9, c10, c11, c12].drop 10).take (Try.prog.cellsOf 2)) = xs[2]? := hf 2 _ rfl
    rw [hC2] at h2'
    have h2 : DataW.trod enc Try.prog w base spare held n 2 [c10] = some (xs[2]'(by omega)) := h2'.trans (List.getElem?_eq_getElem (by omega))
    clear h2'
    have h3' : DataW.trod enc Try.prog w base spare held n 3 (([c0, c1, c2, c3, c4, c5, c6, c7, c8, c9, c10, c11, c12].drop 11).take (Try.prog.cellsOf 3)) = xs[3]? := hf 3 _ rfl
    rw [hC3] at h3'
    have h3 : DataW.trod enc Try.prog w base spare held n 3 [c11] = some (xs[3]'(by omega)) := h3'.trans (List.getElem?_eq_getElem (by omega))
    clear h3'
    have h4' : DataW.trod enc Try.prog w base spare held n 3 (([c0, c1, c2, c3, c4, c5, c6, c7, c8, c9, c10, c11, c12].drop 12).take (Try.prog.cellsOf 3)) = xs[4]? := hf 4 _ rfl
    rw [hC3] at h4'
    have h4 : DataW.trod enc Try.prog w base spare held n 3 [c12] = some (xs[4]'(by omega)) := h4'.trans (List.getElem?_eq_getElem (by omega))
    clear h4'
    obtain ⟨zs, k, _, _, _, hz5, hg⟩ := DataW.trod_struct Try.underlying24 h0
    have hz5' : zs.length = 5 := hz5
    have g0' : DataW.trod enc Try.prog w base spare held k 2 (([c0, c1, c2, c3, c4].drop 0).take (Try.prog.cellsOf 2)) = zs[0]? := hg 0 _ rfl
    rw [hC2] at g0'
    have g0 : DataW.trod enc Try.prog w base spare held k 2 [c0] = some (zs[0]'(by omega)) := g0'.trans (List.getElem?_eq_getElem (by omega))
    clear g0'
    have g1' : DataW.trod enc Try.prog w base spare held k 3 (([c0, c1, c2, c3, c4].drop 1).take (Try.prog.cellsOf 3)) = zs[1]? := hg 1 _ rfl
    rw [hC3] at g1'
    have g1 : DataW.trod enc Try.prog w base spare held k 3 [c1] = some (zs[1]'(by omega)) := g1'.trans (List.getElem?_eq_getElem (by omega))
    clear g1'
    have g2' : DataW.trod enc Try.prog w base spare held k 2 (([c0, c1, c2, c3, c4].drop 2).take (Try.prog.cellsOf 2)) = zs[2]? := hg 2 _ rfl
    rw [hC2] at g2'
    have g2 : DataW.trod enc Try.prog w base spare held k 2 [c2] = some (zs[2]'(by omega)) := g2'.trans (List.getElem?_eq_getElem (by omega))
    clear g2'
    have g3' : DataW.trod enc Try.prog w base spare held k 3 (([c0, c1, c2, c3, c4].drop 3).take (Try.prog.cellsOf 3)) = zs[3]? := hg 3 _ rfl
    rw [hC3] at g3'
    have g3 : DataW.trod enc Try.prog w base spare held k 3 [c3] = some (zs[3]'(by omega)) := g3'.trans (List.getElem?_eq_getElem (by omega))
    clear g3'
    have g4' : DataW.trod enc Try.prog w base spare held k 4 (([c0, c1, c2, c3, c4].drop 4).take (Try.prog.cellsOf 4)) = zs[4]? := hg 4 _ rfl
    rw [hC4] at g4'
    have g4 : DataW.trod enc Try.prog w base spare held k 4 [c4] = some (zs[4]'(by omega)) := g4'.trans (List.getElem?_eq_getElem (by omega))
    clear g4'
    obtain ⟨us, k2, _, _, _, hu5, hq⟩ := DataW.trod_struct Try.underlying27 h1
    have hu5' : us.length = 5 := hu5
    have q0' : DataW.trod enc Try.prog w base spare held k2 2 (([c5, c6, c7, c8, c9].drop 0).take (Try.prog.cellsOf 2)) = us[0]? := hq 0 _ rfl
    rw [hC2] at q0'
    have q0 : DataW.trod enc Try.prog w base spare held k2 2 [c5] = some (us[0]'(by omega)) := q0'.trans (List.getElem?_eq_getElem (by omega))
    clear q0'
    have q1' : DataW.trod enc Try.prog w base spare held k2 2 (([c5, c6, c7, c8, c9].drop 1).take (Try.prog.cellsOf 2)) = us[1]? := hq 1 _ rfl
    rw [hC2] at q1'
    have q1 : DataW.trod enc Try.prog w base spare held k2 2 [c6] = some (us[1]'(by omega)) := q1'.trans (List.getElem?_eq_getElem (by omega))
    clear q1'
    have q2' : DataW.trod enc Try.prog w base spare held k2 2 (([c5, c6, c7, c8, c9].drop 2).take (Try.prog.cellsOf 2)) = us[2]? := hq 2 _ rfl
    rw [hC2] at q2'
    have q2 : DataW.trod enc Try.prog w base spare held k2 2 [c7] = some (us[2]'(by omega)) := q2'.trans (List.getElem?_eq_getElem (by omega))
    clear q2'
    have q3' : DataW.trod enc Try.prog w base spare held k2 3 (([c5, c6, c7, c8, c9].drop 3).take (Try.prog.cellsOf 3)) = us[3]? := hq 3 _ rfl
    rw [hC3] at q3'
    have q3 : DataW.trod enc Try.prog w base spare held k2 3 [c8] = some (us[3]'(by omega)) := q3'.trans (List.getElem?_eq_getElem (by omega))
    clear q3'
    have q4' : DataW.trod enc Try.prog w base spare held k2 25 (([c5, c6, c7, c8, c9].drop 4).take (Try.prog.cellsOf 25)) = us[4]? := hq 4 _ rfl
    rw [hC25] at q4'
    have q4 : DataW.trod enc Try.prog w base spare held k2 25 [c9] = some (us[4]'(by omega)) := q4'.trans (List.getElem?_eq_getElem (by omega))
    clear q4'
    obtain ⟨a0, e0, _⟩ := DataW.trod_int Try.underlying2 g0
    obtain ⟨a1, e1, _⟩ := DataW.trod_int Try.underlying3 g1
    obtain ⟨a2, e2, _⟩ := DataW.trod_int Try.underlying2 g2
    obtain ⟨a3, e3, _⟩ := DataW.trod_int Try.underlying3 g3
    obtain ⟨a4, e4, _⟩ := DataW.trod_bool Try.underlying4 g4
    obtain ⟨b0, f0, _⟩ := DataW.trod_int Try.underlying2 q0
    obtain ⟨b1, f1, _⟩ := DataW.trod_int Try.underlying2 q1
    obtain ⟨b2, f2, _⟩ := DataW.trod_int Try.underlying2 q2
    obtain ⟨b3, f3, _⟩ := DataW.trod_int Try.underlying3 q3
    obtain ⟨A, m, c, ss, f4, hs⟩ := open_texts q4
    obtain ⟨d2, r2, _⟩ := DataW.trod_int Try.underlying2 h2
    obtain ⟨d3, r3, _⟩ := DataW.trod_int Try.underlying3 h3
    obtain ⟨d4, r4, _⟩ := DataW.trod_int Try.underlying3 h4
    simp at e0 e1 e2 e3 e4 f0 f1 f2 f3 f4 r2 r3 r4
    subst e0 e1 e2 e3 e4 f0 f1 f2 f3 f4 r2 r3 r4
    exact ⟨{ it := ⟨a0, a1, a2, a3, a4⟩, bid := b0, bfrom := b1, bto := b2, many := b3, sA := A, sn := m, sc := c, ss := ss, seq := d2, pos := d3, size := d4 }, rfl, hs⟩
theorem open_ask {fuel : Nat} {cs : List Value} {x : DataW H × List MemPlace} (h : DataW.trod enc Try.prog w base spare held fuel 31 cs = some x) : ∃ a : Ask, cs = a.cells ∧ AskWf a := by
  obtain ⟨xs, n, _, _, hlen, hx7, hf⟩ := DataW.trod_struct Try.underlying31 h
  have hC : Try.prog.cellsOf 31 = 7 := by kernel_rfl
  have hC2 : Try.prog.cellsOf 2 = 1 := by kernel_rfl
  have hC3 : Try.prog.cellsOf 3 = 1 := by kernel_rfl
  have hC9 : Try.prog.cellsOf 9 = 1 := by kernel_rfl
  rw [hC] at hlen
  have hx7' : xs.length = 7 := hx7
  match cs, hlen with
  | [c0, c1, c2, c3, c4, c5, c6], _ =>
    have g0' : DataW.trod enc Try.prog w base spare held n 9 (([c0, c1, c2, c3, c4, c5, c6].drop 0).take (Try.prog.cellsOf 9)) = xs[0]? := hf 0 _ rfl
    rw [hC9] at g0'
    have g0 : DataW.trod enc Try.prog w base spare held n 9 [c0] = some (xs[0]'(by omega)) := g0'.trans (List.getElem?_eq_getElem (by omega))
    clear g0'
    have g1' : DataW.trod enc Try.prog w base spare held n 2 (([c0, c1, c2, c3, c4, c5, c6].drop 1).take (Try.prog.cellsOf 2)) = xs[1]? := hf 1 _ rfl
    rw [hC2] at g1'
    have g1 : DataW.trod enc Try.prog w base spare held n 2 [c1] = some (xs[1]'(by omega)) := g1'.trans (List.getElem?_eq_getElem (by omega))
    clear g1'
    have g2' : DataW.trod enc Try.prog w base spare held n 2 (([c0, c1, c2, c3, c4, c5, c6].drop 2).take (Try.prog.cellsOf 2)) = xs[2]? := hf 2 _ rfl
    rw [hC2] at g2'
    have g2 : DataW.trod enc Try.prog w base spare held n 2 [c2] = some (xs[2]'(by omega)) := g2'.trans (List.getElem?_eq_getElem (by omega))
    clear g2'
    have g3' : DataW.trod enc Try.prog w base spare held n 3 (([c0, c1, c2, c3, c4, c5, c6].drop 3).take (Try.prog.cellsOf 3)) = xs[3]? := hf 3 _ rfl
    rw [hC3] at g3'
    have g3 : DataW.trod enc Try.prog w base spare held n 3 [c3] = some (xs[3]'(by omega)) := g3'.trans (List.getElem?_eq_getElem (by omega))
    clear g3'
    have g4' : DataW.trod enc Try.prog w base spare held n 2 (([c0, c1, c2, c3, c4, c5, c6].drop 4).take (Try.prog.cellsOf 2)) = xs[4]? := hf 4 _ rfl
    rw [hC2] at g4'
    have g4 : DataW.trod enc Try.prog w base spare held n 2 [c4] = some (xs[4]'(by omega)) := g4'.trans (List.getElem?_eq_getElem (by omega))
    clear g4'
    have g5' : DataW.trod enc Try.prog w base spare held n 2 (([c0, c1, c2, c3, c4, c5, c6].drop 5).take (Try.prog.cellsOf 2)) = xs[5]? := hf 5 _ rfl
    rw [hC2] at g5'
    have g5 : DataW.trod enc Try.prog w base spare held n 2 [c5] = some (xs[5]'(by omega)) := g5'.trans (List.getElem?_eq_getElem (by omega))
    clear g5'
    have g6' : DataW.trod enc Try.prog w base spare held n 3 (([c0, c1, c2, c3, c4, c5, c6].drop 6).take (Try.prog.cellsOf 3)) = xs[6]? := hf 6 _ rfl
    rw [hC3] at g6'
    have g6 : DataW.trod enc Try.prog w base spare held n 3 [c6] = some (xs[6]'(by omega)) := g6'.trans (List.getElem?_eq_getElem (by omega))
    clear g6'
    obtain ⟨a0, e0, _⟩ := DataW.trod_string Try.underlying9 g0
    obtain ⟨a1, e1, _, w1⟩ := DataW.trod_int Try.underlying2 g1
    obtain ⟨a2, e2, _, w2⟩ := DataW.trod_int Try.underlying2 g2
    obtain ⟨a3, e3, _⟩ := DataW.trod_int Try.underlying3 g3
    obtain ⟨a4, e4, _⟩ := DataW.trod_int Try.underlying2 g4
    obtain ⟨a5, e5, _⟩ := DataW.trod_int Try.underlying2 g5
    obtain ⟨a6, e6, _, w6⟩ := DataW.trod_int Try.underlying3 g6
    simp at e0 e1 e2 e3 e4 e5 e6
    subst e0 e1 e2 e3 e4 e5 e6
    exact ⟨⟨a0, a1, a2, a3, a4, a5, a6⟩, rfl, w1, w2, w6⟩
theorem open_ents {fuel : Nat} {A : Option Addr} {n c : Nat} {x : DataW H × List MemPlace} (h : DataW.trod enc Try.prog w base spare held fuel 22 [.slice A n c] = some x) : ∃ L, Ents w A n c L := by
  rcases open_slice Try.underlying22 h with ⟨e, _⟩ | ⟨a, len, cap, m, k, D, Pl, e, _, hl, hm, hmm, _, hc⟩
  · simp at e
    obtain ⟨rfl, rfl, rfl⟩ := e
    exact ⟨[], rfl, Nat.le_refl _, by omega, fun _ => rfl, fun _ e => (by cases e), fun _ e => by cases e⟩
  · simp at e
    obtain ⟨rfl, rfl, rfl⟩ := e
    have hlm : n ≤ m := by rw [hmm]; split <;> omega
    have hC : Try.prog.cellsOf 29 = 13 := by kernel_rfl
    rw [hC] at hc
    obtain ⟨L, hL, hP⟩ := list_of (P := fun i (e : Ent) => (∀ j, (h : j < 13) → w.cell? (a.add (i * 13 + j)) = some (e.cells[j]'h)) ∧ SRd w e.sA e.sn e.sc e.ss) n (fun i hi => by
      obtain ⟨cs, hcs, ht⟩ := hc i (by omega)
      obtain ⟨e, rfl, hs⟩ := open_ent ht
      obtain ⟨_, hcl, hat⟩ := World.cells?_some hcs
      refine ⟨e, fun j hj => ?_, hs⟩
      have := hat j hj
      rw [Go.Deep.add_add] at this
      exact this.trans (List.getElem?_eq_getElem (by rw [Ent.cells_length]; exact hj)))
    refine ⟨L, hL, hl, by unfold maxLen at hm; omega, fun e => (by cases e), fun ad e h0 => ?_, fun e he => ?_⟩
    · cases e
      have h00 := (hP 0 (by omega)).1 0 (by decide)
      obtain ⟨b, o, rfl⟩ := spot_of (x := a) (by rw [show a.add (0 * 13 + 0) = a from rfl] at h00; exact h00)
      refine ⟨b, o, rfl, fun j hj i hi => ?_⟩
      rw [Ent.cells_length] at hi
      have := (hP j hj).1 i hi
      rw [add_off, show o + (j * 13 + i) = o + j * 13 + i by omega] at this
      exact this
    · obtain ⟨j, hj, rfl⟩ := List.getElem_of_mem he
      exact (hP j hj).2
theorem open_ent_agg {r : Reach} {b0 : Nat} {v : Value} {d : DataW H} {p : List MemPlace} (hv : Value.okWide Try.prog w r b0 29 v) (h : DataW.Trod enc Try.prog w base spare held 29 v d p) : ∃ e : Ent, v = .agg e.cells.toArray ∧ SRd w e.sA e.sn e.sc e.ss := by
  obtain ⟨cs, rfl, _⟩ := okWide_struct Try.underlying29 hv
  obtain ⟨fuel, hf⟩ := h
  obtain ⟨e, he, hs⟩ := open_ent hf
  exact ⟨e, by rw [← he]; simp [Value.cells], hs⟩
theorem open_ask_agg {r : Reach} {b0 : Nat} {v : Value} {d : DataW H} {p : List MemPlace} (hv : Value.okWide Try.prog w r b0 31 v) (h : DataW.Trod enc Try.prog w base spare held 31 v d p) : ∃ a : Ask, v = .agg a.cells.toArray ∧ AskWf a := by
  obtain ⟨cs, rfl, _⟩ := okWide_struct Try.underlying31 hv
  obtain ⟨fuel, hf⟩ := h
  obtain ⟨a, ha, hs⟩ := open_ask hf
  exact ⟨a, by rw [← ha]; simp [Value.cells], hs⟩
end
end Go.Proofs.Ytbfnjfmnblafaaa.Qry
