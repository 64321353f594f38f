/- own: an entry with a list of its own. -/
import Derived.Test.YtbfnjfmnblafaaaQ9
namespace Go.Proofs.Ytbfnjfmnblafaaa.Qry
open Go.RowKit

theorem SRd_of_own {w : World} {base : Nat} {v : Value} {n : Nat} {l : List ByteArray} (h : w.ownsRow base 9 1 v n (l.map Value.string)) : ∃ A c, v = .slice A n c ∧ SRd w A n c l ∧ (∀ ad, A = some ad → base ≤ ad.block ∧ ad.block < w.heap.size) := by
  have hl : l.length = n := by have := h.1; simpa using this
  rcases h.2 with ⟨rfl, rfl⟩ | ⟨g, cap, cur, rfl, hb, hg, h1, h2, h3, h4⟩
  · obtain rfl : l = [] := List.eq_nil_of_length_eq_zero hl
    exact ⟨none, 0, rfl, ⟨rfl, Nat.le_refl _, by omega, fun _ => rfl, fun _ e => by cases e⟩, fun _ e => by cases e⟩
  · refine ⟨_, cap, rfl, ⟨hl, h1, by unfold maxLen at h2; omega, fun e => (by cases e), fun ad e _ => ?_⟩, fun ad e => ?_⟩
    · cases e
      refine ⟨g, 0, rfl, fun j hj => ?_⟩
      have := h.cells (g := g) rfl j (.string l[j]) (by rw [List.getElem?_map, List.getElem?_eq_getElem hj]; rfl)
      rw [add_off] at this
      exact this
    · cases e
      exact ⟨hb, (Array.getElem?_eq_some_iff.1 hg).1⟩
/-- An entry with another list, that reads alike. -/
def Ent.re (e : Ent) (A : Option Addr) (c : Nat) : Ent := { e with sA := A, sc := c }
def OwnPost (w : World) (e : Ent) (r : Ending) (w' : World) : Prop := ∃ A c, r = .returned (.agg (e.re A c).cells.toArray) ∧ SRd w' A e.sn c e.ss ∧ Below w.heap.size w w' ∧ ∀ ad, A = some ad → w.heap.size ≤ ad.block ∧ ad.block < w'.heap.size
theorem re_cells (e : Ent) (A : Option Addr) (c : Nat) : e.cells.toArray.setIfInBounds 9 (.slice A e.sn c) = (e.re A c).cells.toArray := by simp [Ent.cells, Item.cells, Ent.re]
theorem own_empty (w : World) (e : TypeId) (size : Nat) {base : Nat} (hb : base ≤ w.heap.size) : (w.alloc (.cells #[] e)).ownsRow base e size (.slice (some ⟨w.heap.size, 0, none⟩) 0 0) 0 [] := by
  refine ⟨by simp, .inr ⟨w.heap.size, 0, #[], rfl, hb, heap_alloc_new _ _, Nat.le_refl _, by decide, by simp, by simp⟩⟩
def zeroA : Array Value := #[.int .i64 0, .int .i64 0, .int .i64 0, .int .i64 0, .bool false, .int .i64 0, .int .i64 0, .int .i64 0, .int .i64 0, .slice none 0 0, .int .i64 0, .int .i64 0, .int .i64 0]
theorem own_mid {w W1 w2 : World} {e : Ent} {X : Array Value} {g0 g1 : Nat} {v1 : Value} (hs : g0 = w.heap.size ∧ g1 = g0 + 1 ∧ W1.heap.size = g0 + 2) (h0 : W1.heap[g0]? = some (.cells X 29 (0, 0))) (h1 : W1.heap[g1]? = some (.cells zeroA 29 (0, 0))) (hB : Below w.heap.size w W1) (hX : X = e.cells.toArray)
    (hown : w2.ownsRow W1.heap.size 9 1 v1 e.sn (e.ss.map Value.string)) (hg : (W1.alloc (.cells #[] 9)).grownBy w2 (some W1.heap.size)) :
    (∃ A c, v1 = .slice A e.sn c ∧ SRd w2 A e.sn c e.ss ∧ (∀ ad, A = some ad → W1.heap.size ≤ ad.block ∧ ad.block < w2.heap.size)) ∧ w2.cell? ⟨g0, 9, none⟩ = some (.slice e.sA e.sn e.sc) ∧ w2.frozen? ⟨g0, 9, none⟩ = false ∧ w2.heap[g0]? = some (.cells X 29 (0, 0)) ∧ w2.heap[g1]? = some (.cells zeroA 29 (0, 0)) ∧ Below w.heap.size w w2 := by
  have k0 : w2.heap[g0]? = some (.cells X 29 (0, 0)) := by
    rw [hg.block g0 (by simp; omega) (fun e => by have := Option.some.inj e; omega), heap_alloc_old _ _ (by omega)]; exact h0
  have k1 : w2.heap[g1]? = some (.cells zeroA 29 (0, 0)) := by
    rw [hg.block g1 (by simp; omega) (fun e => by have := Option.some.inj e; omega), heap_alloc_old _ _ (by omega)]; exact h1
  refine ⟨SRd_of_own hown, by rw [hX] at k0; simp [World.cell?, k0, Ent.cells, Item.cells], frozen_of_row _ g0 9 X 29 k0, k0, k1, ?_⟩
  exact below_grown (hB.alloc (by omega) _) hg (by simp; omega) (fun k e => by have := Option.some.inj e; omega)
theorem own_load {w2 : World} {e : Ent} {X : Array Value} {g0 : Nat} {A : Option Addr} {c : Nat} (h : w2.heap[g0]? = some (.cells X 29 (0, 0))) (hX : X = e.cells.toArray) : (w2.setCell ⟨g0, 9, none⟩ (.slice A e.sn c)).heap[g0]? = some (.cells (e.re A c).cells.toArray 29 (0, 0)) := by
  rw [← re_cells, ← hX]
  exact heap_setCell_same w2 g0 9 X 29 _ h
theorem own_keep {w2 : World} {g0 g1 : Nat} {Z : Array Value} {v : Value} (hne : g1 ≠ g0) (h : w2.heap[g1]? = some (.cells Z 29 (0, 0))) : (w2.setCell ⟨g0, 9, none⟩ v).heap[g1]? = some (.cells Z 29 (0, 0)) := by
  rw [heap_setCell_other _ _ _ _ (by exact hne)]; exact h
theorem SRd.other2 {w2 : World} {A : Option Addr} {n c : Nat} {l : List ByteArray} {g0 g1 s : Nat} {v : Value} {Y : Array Value} (h : SRd w2 A n c l) (hA : ∀ ad, A = some ad → s ≤ ad.block ∧ ad.block < w2.heap.size) (h0 : g0 < s) (h1 : g1 < s) : SRd ((w2.setCell ⟨g0, 9, none⟩ v).setRow g1 Y) A n c l :=
  ⟨h.len, h.le, h.small, h.nil, fun ad e hn => by
    obtain ⟨b, o, e2, hc⟩ := h.spot ad e hn
    have hb := (hA ad e).1
    rw [e2] at hb
    refine ⟨b, o, e2, fun j hj => ?_⟩
    rw [← hc j hj]
    refine World.cell?_of_block ?_
    show ((w2.setCell ⟨g0, 9, none⟩ v).setRow g1 Y).heap[b]? = w2.heap[b]?
    have hb' : s ≤ b := hb
    rw [setRow_other _ _ _ _ (by omega), heap_setCell_other _ _ _ _ (by show b ≠ g0; omega)]⟩
set_option maxRecDepth 100000 in
set_option maxHeartbeats 4000000 in
theorem own_any (e : Ent) (w : World) (h : SRd w e.sA e.sn e.sc e.ss) (hsn : e.sn ≤ 1000000) :
    Calls Try.prog 37 #[.agg e.cells.toArray] w (OwnPost w e) := by
  obtain ⟨X, hX⟩ : ∃ X, X = e.cells.toArray := ⟨_, rfl⟩
  rw [← hX]
  have HX := Lib.hid hX
  have HR := Lib.hid h
  clear hX h
  go_enter Try.func37, Try.ntmps37
  go_upto_region 1 with (fail)
  obtain ⟨W1, hW1⟩ : ∃ W1, W1 = (w.alloc (.cells X 29)).alloc (.cells zeroA 29) := ⟨_, rfl⟩
  unfold zeroA at hW1
  rw [← hW1]
  have hs1 : W1.heap.size = w.heap.size + 2 := by rw [hW1]; simp
  have hB1 : Below w.heap.size w W1 := by rw [hW1]; exact ((Below.refl _ _).alloc (Nat.le_refl _) _).alloc (by simp) _
  have hb0 : W1.heap[w.heap.size]? = some (.cells X 29 (0, 0)) := by rw [hW1]; exact heap_alloc2_old w _ _
  have hb1 : W1.heap[w.heap.size + 1]? = some (.cells zeroA 29 (0, 0)) := by rw [hW1]; exact heap_alloc2_new w _ _
  obtain ⟨g0, hg0⟩ : ∃ b, b = w.heap.size := ⟨_, rfl⟩
  obtain ⟨g1, hg1⟩ : ∃ b, b = w.heap.size + 1 := ⟨_, rfl⟩
  rw [← hg1] at hb1 ⊢
  rw [← hg0] at hb0 ⊢
  have HS : Hid (g0 = w.heap.size ∧ g1 = g0 + 1 ∧ W1.heap.size = g0 + 2) := Lib.hid (by omega)
  have hcs : W1.cell? ⟨g0, 9, none⟩ = some (.slice e.sA e.sn e.sc) := by rw [HX.out] at hb0; simp [World.cell?, hb0, Ent.cells, Item.cells]
  have HB0 := Lib.hid hb0
  have HB1 := Lib.hid hb1
  have B1 := Lib.hid hB1
  have hlt0 : g0 < W1.heap.size := by omega
  have HYi : Hid (∀ A c, (Try.prog.info? 29).map (·.size) = some (e.re A c).cells.toArray.size) := Lib.hid (fun A c => by show _ = some (e.re A c).cells.length; rw [Ent.cells_length]; kernel_rfl)
  have HY1 : Hid (∀ A c, (e.re A c).cells.toArray.all (·.oneCell') = true) := Lib.hid (fun A c => by rw [List.all_toArray, List.all_eq_true]; exact ent_one _)
  clear hs1 hB1 hb0 hb1 hg0 hg1 hW1
  go_wp2_with (first | (at_builtin; refine append_src rfl (.tmp 3) (.tmp 6) 25 9 (.string ⟨#[]⟩) 1 16 rfl Try.underlying25 infoT rfl (by decide) W1.heap.size _ 0 [] rfl (own_empty W1 9 1 (Nat.le_refl _)) e.sA e.sn e.sc (e.ss.map Value.string) rfl (SRd.src (HR.out.below (B1.out.trans ((Below.refl _ _).alloc (by have := HS.out; omega) _)))) (by unfold maxLen; omega) (by omega) (by simp) ?_; intro v1 w2 hown hg; obtain ⟨hd1, hd2, hd3, hd4, hd5, hd6⟩ := own_mid (by have := HS.out; omega) HB0.out HB1.out B1.out HX.out (by rw [Nat.zero_add, List.nil_append] at hown; exact hown) hg; obtain ⟨A1, c1, rfl, hsr, hA1⟩ := hd1; have HSR := Lib.hid hsr; have HA1 := Lib.hid hA1; have HD4 := Lib.hid hd4; have HD5 := Lib.hid hd5; have HD6 := Lib.hid hd6; clear hown hg hsr hA1 hd4 hd5 hd6) | (refine wpList_load_row rfl 29 (.tmp 1) rfl g0 rfl 29 (e.re A1 c1).cells.toArray (0, 0) _ (own_load HD4.out HX.out) Try.underlying29 rfl (HYi.out A1 c1) ?_) | (refine wpList_store_row rfl 29 (.tmp 2) (.tmp 10) rfl g1 (e.re A1 c1).cells.toArray rfl rfl 29 _ (own_keep (by have := HS.out; omega) HD5.out) (HYi.out A1 c1) rfl (HY1.out A1 c1) ?_))
  refine bodyPost_ret (results_cell_row rfl _ _ g1 29 (e.re A1 c1).cells.toArray (0, 0) _ rfl (setRow_heap _ _ _ _ _ _ (own_keep (by have := HS.out; omega) HD5.out)) Try.underlying29 rfl (HYi.out A1 c1)) rfl ?_
  refine ⟨A1, c1, rfl, ?_, below_setRow (HD6.out.setCell (by have := HS.out; show w.heap.size ≤ g0; omega) _) (by have := HS.out; omega), fun ad e => ?_⟩
  · exact SRd.other2 HSR.out HA1.out (by have := HS.out; omega) (by have := HS.out; omega)
  · have h1 := HA1.out ad e
    have h2 := HS.out
    exact ⟨by omega, by simpa using h1.2⟩
end Go.Proofs.Ytbfnjfmnblafaaa.Qry
