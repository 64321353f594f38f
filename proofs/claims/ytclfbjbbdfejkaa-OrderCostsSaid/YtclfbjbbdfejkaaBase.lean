/- What the walks of this seat say of memory: slices of whole numbers that are read, and rows of the call's own. -/
import Derived.WalkKit
import Derived.WalkSpells
import Derived.Lib.Hide
import Derived.Laws.BytesArg
import Derived.Lib.LazyBuf
import Derived.Laws.AppendOwnNone
import Derived.Deep.Draws
namespace Go.Proofs.Ytclfbjbbdfejkaa
open Go.RowKit

theorem add_off (b o j : Nat) : (⟨b, o, none⟩ : Addr).add j = ⟨b, o + j, none⟩ := by unfold Addr.add; split <;> simp_all

/-- The slice at A, of n elements and a capacity of c, reads as l. -/
structure Rd (w : World) (k : IntKind) (A : Option Addr) (n c : Nat) (l : List Int) : Prop where
  len : l.length = n
  le : n ≤ c
  small : c ≤ 9223372036854775807
  nil : A = none → c = 0
  spot : ∀ ad, A = some ad → 0 < n → ∃ b o, ad = ⟨b, o, none⟩ ∧ ∀ j, j < n → w.cell? ⟨b, o + j, none⟩ = some (.int k (l.getD j 0))

section
variable {w w1 : World} {k : IntKind} {A : Option Addr} {n c : Nat} {l : List Int}
theorem Rd.below (h : Rd w k A n c l) (hb : Below w.heap.size w w1) : Rd w1 k A n c l :=
  ⟨h.len, h.le, h.small, h.nil, fun ad e h0 => by
    obtain ⟨b, o, e2, hc⟩ := h.spot ad e h0
    exact ⟨b, o, e2, fun j hj => (hb.cell (World.block_lt_of_cell? w _ (hc j hj))).trans (hc j hj)⟩⟩
theorem Rd.void (w : World) (k : IntKind) : Rd w k none 0 0 [] := ⟨rfl, Nat.le_refl _, by omega, fun _ => rfl, fun _ e _ => by cases e⟩
theorem Rd.len0 (h : Rd w k none n c l) : n = 0 ∧ c = 0 ∧ l = [] := by
  have h1 := h.nil rfl
  have h2 := h.le
  have h3 : n = 0 := by omega
  exact ⟨h3, h1, List.eq_nil_of_length_eq_zero (h.len.trans h3)⟩
theorem Rd.cell (h : Rd w k A n c l) (j : Nat) (hj : j < n) : ∃ ad, A = some ad ∧ w.cell? (ad.add j) = some (.int k (l.getD j 0)) := by
  cases A with
  | none => have := h.len0; omega
  | some ad =>
    obtain ⟨b, o, rfl, hc⟩ := h.spot ad rfl (by omega)
    exact ⟨_, rfl, by rw [add_off]; exact hc j hj⟩
/-- The cells as a list of values. -/
theorem Rd.cells {ad : Addr} (h : Rd w k (some ad) n c l) : ∀ j u, (l.map (Value.int k))[j]? = some u → w.cell? (ad.add j) = some u := by
  intro j u hu
  have hj : j < l.length := by
    rcases Nat.lt_or_ge j l.length with h1 | h1
    · exact h1
    · rw [List.getElem?_eq_none (by simpa using h1)] at hu; cases hu
  obtain ⟨b, o, rfl, hc⟩ := h.spot ad rfl (by have := h.len; omega)
  rw [add_off, hc j (by have := h.len; omega)]
  rw [List.getElem?_map, List.getElem?_eq_getElem hj] at hu
  rw [List.getD_eq_getElem?_getD, List.getElem?_eq_getElem hj]
  exact hu
theorem ints_one (k : IntKind) (l : List Int) : ∀ u ∈ l.map (Value.int k), u.oneCell' = true := by
  intro u hu
  obtain ⟨x, _, rfl⟩ := List.mem_map.1 hu
  rfl
/-- The first h elements. -/
theorem Rd.take (h : Rd w k A n c l) (m : Nat) (hm : m ≤ n) : Rd w k A m c (l.take m) :=
  ⟨by rw [List.length_take, h.len]; omega, Nat.le_trans hm h.le, h.small, h.nil, fun ad e h0 => by
    obtain ⟨b, o, e2, hc⟩ := h.spot ad e (by omega)
    refine ⟨b, o, e2, fun j hj => ?_⟩
    rw [hc j (by omega), List.getD_eq_getElem?_getD, List.getD_eq_getElem?_getD, List.getElem?_take, if_pos hj]⟩
theorem text_empty {P : Program} {w : World} {src e dst : TypeId} (hs : P.underlying src = some (.slice e)) (he : P.underlying e = some (.int .u8)) (hd : P.underlying dst = some .string) (ad : Addr) (c : Nat) :
    (convert src dst (.slice (some ad) 0 c)).run P w = .ok (.string (strOfNums [])) w := by
  have hl : (loadCells ad 0).run P w = .ok #[] w := by simp [loadCells, loadCellsFrom]
  rw [run_convert_bytes_string w src dst e _ 0 c hs he hd, run_bytesToString w _ 0 c [] hl, foldl_push_bytes]
  simp [strOfNums, ByteArray.empty, ByteArray.emptyWithCapacity]
  rfl
/-- A string made of bytes. -/
theorem Rd.text {P : Program} (h : Rd w .u8 A n c l) {src e dst : TypeId} (hs : P.underlying src = some (.slice e)) (he : P.underlying e = some (.int .u8)) (hd : P.underlying dst = some .string) :
    (convert src dst (.slice A n c)).run P w = .ok (.string (strOfNums l)) w := by
  cases A with
  | none =>
    obtain ⟨rfl, rfl, rfl⟩ := h.len0
    exact run_convert_bytes_nil w src e hs he 0 0 dst hd
  | some ad =>
    rcases Nat.eq_zero_or_pos n with h0 | h0
    · subst h0
      obtain rfl : l = [] := List.eq_nil_of_length_eq_zero h.len
      exact text_empty hs he hd ad c
    · obtain ⟨b, o, rfl, hc⟩ := h.spot ad rfl h0
      exact run_convert_bytes_arg w src e hs he b o n c l h.len hc dst hd
end

/-- The slice v, of n elements, is a row of the call's own that holds l; e: the element's type. -/
def Own (w : World) (k : IntKind) (e : TypeId) (base : Nat) (v : Value) (n : Nat) (l : List Int) : Prop := w.ownsRow base e 1 v n (l.map (Value.int k))
section
variable {w w1 : World} {k : IntKind} {e : TypeId} {base : Nat} {v : Value} {n : Nat} {l : List Int}
theorem Own.len (h : Own w k e base v n l) : l.length = n := by have := h.1; simp at this; exact this
theorem Own.rd (h : Own w k e base v n l) : ∃ A c, v = .slice A n c ∧ Rd w k A n c l ∧ (∀ ad, A = some ad → base ≤ ad.block ∧ ad.block < w.heap.size) := by
  have hl := h.len
  rcases h.2 with ⟨rfl, rfl⟩ | ⟨g, cap, cur, rfl, hb, hg, h1, h2, h3, h4⟩
  · obtain rfl : l = [] := List.eq_nil_of_length_eq_zero hl
    exact ⟨none, 0, rfl, Rd.void _ _, fun ad e => by cases e⟩
  · refine ⟨_, cap, rfl, ⟨hl, h1, by simpa [maxLen] using h2, (fun e => by cases e), fun ad e _ => ?_⟩, fun ad e => ?_⟩
    · cases e
      refine ⟨g, 0, rfl, fun j hj => ?_⟩
      have := h.cells (g := g) rfl j (.int k (l.getD j 0)) (by rw [List.getElem?_map, List.getElem?_eq_getElem (by omega), List.getD_eq_getElem?_getD, List.getElem?_eq_getElem (by omega)]; rfl)
      rw [add_off] at this
      exact this
    · cases e
      exact ⟨hb, (Array.getElem?_eq_some_iff.1 hg).1⟩
theorem Own.kept (h : Own w k e base v n l) {row : Option Nat} (hg : w.grownBy w1 row) (hne : v.ownBlock = none ∨ v.ownBlock ≠ row) : Own w1 k e base v n l := World.ownsRow.kept h hg hne
theorem Own.below (h : Own w k e base v n l) (hb : Below w.heap.size w w1) : Own w1 k e base v n l :=
  World.ownsRow.kept h (row := none) ⟨hb.os, hb.tape, hb.output, hb.size, fun i hi _ => hb.block i hi⟩ (by cases v.ownBlock <;> simp)
theorem Own.lower (h : Own w k e base v n l) {b' : Nat} (hb : b' ≤ base) : Own w k e b' v n l := by
  refine ⟨h.1, ?_⟩
  rcases h.2 with h1 | ⟨g, cap, cur, e1, h2, h3⟩
  · exact .inl h1
  · exact .inr ⟨g, cap, cur, e1, Nat.le_trans hb h2, h3⟩
end
theorem below_trans {w w1 w2 : World} {B : Nat} (h1 : Below B w w1) (h2 : Below w1.heap.size w1 w2) (hB : B ≤ w1.heap.size) : Below B w w2 :=
  ⟨h2.os.trans h1.os, h2.tape.trans h1.tape, h2.output.trans h1.output, Nat.le_trans h1.size h2.size, fun k hk => (h2.block k (Nat.lt_of_lt_of_le hk hB)).trans (h1.block k hk)⟩
end Go.Proofs.Ytclfbjbbdfejkaa
namespace Go.Proofs.Ytclfbjbbdfejkaa
theorem Own.alloc {w : World} {k : IntKind} {e : TypeId} {base : Nat} {v : Value} {n : Nat} {l : List Int} (h : Own w k e base v n l) (o : Obj) : Own (w.alloc o) k e base v n l := World.ownsRow.alloc h o
end Go.Proofs.Ytclfbjbbdfejkaa
namespace Go.Proofs.Ytclfbjbbdfejkaa
open Go.RowKit
theorem below_drewN2 {B : Nat} {w W : World} (h : Below B w W) (n : Nat) : Below B w (W.drewN n) := ⟨h.os, h.tape, h.output, h.size, h.block⟩
end Go.Proofs.Ytclfbjbbdfejkaa
