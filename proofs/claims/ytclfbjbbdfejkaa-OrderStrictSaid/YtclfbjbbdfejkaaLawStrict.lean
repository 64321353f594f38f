/- OrderStrict. -/
import Derived.Test.YtclfbjbbdfejkaaOW
namespace Go.Proofs.Ytclfbjbbdfejkaa.Ord
open Go.RowKit

theorem alloc3 (w : World) (X Y Z : Array Value) : let W := ((w.alloc (.cells X 24)).alloc (.cells Y 24)).alloc (.cells Z 24); W.heap[w.heap.size]? = some (.cells X 24 (0, 0)) ∧ W.heap[w.heap.size + 1]? = some (.cells Y 24 (0, 0)) ∧ W.heap[w.heap.size + 1 + 1]? = some (.cells Z 24 (0, 0)) := by
  refine ⟨?_, ?_, ?_⟩
  · exact (Below.heap_alloc _ _ _ (by simp; omega)).trans (heap_alloc2_old _ _ _)
  · exact (Below.heap_alloc _ _ _ (by simp)).trans (heap_alloc2_new _ _ _)
  · have := heap_alloc_new ((w.alloc (.cells X 24)).alloc (.cells Y 24)) (.cells Z 24)
    simpa using this
set_option maxRecDepth 100000 in
set_option maxHeartbeats 16000000 in
theorem OrderStrict_walk (xa xb xc : Item) (w : World) : Calls Try.prog 4 #[.agg xa.cells.toArray, .agg xb.cells.toArray, .agg xc.cells.toArray] w (SayB w true) := by
  obtain ⟨X, hX⟩ : ∃ X, X = xa.cells.toArray := ⟨_, rfl⟩
  obtain ⟨Y, hY⟩ : ∃ X, X = xb.cells.toArray := ⟨_, rfl⟩
  obtain ⟨Z, hZ⟩ : ∃ X, X = xc.cells.toArray := ⟨_, rfl⟩
  rw [← hX, ← hY, ← hZ]
  have HX := Lib.hid hX
  have HY := Lib.hid hY
  have HZ := Lib.hid hZ
  have HI5 : Hid (∀ x : Item, (Try.prog.info? 24).map (·.size) = some x.cells.toArray.size) := Lib.hid (fun x => item_info x)
  have FAA : Hid (first xa xa = false) := Lib.hid (by rw [first_eq, if_pos rfl, if_pos rfl]; exact decide_eq_false (by omega))
  clear hX hY hZ
  go_enter Try.func4, Try.ntmps4
  go_upto_region 1 with (fail)
  obtain ⟨W2, hW2⟩ : ∃ W, W = ((w.alloc (.cells X 24)).alloc (.cells Y 24)).alloc (.cells Z 24) := ⟨_, rfl⟩
  rw [← hW2]
  have B2 := Lib.hid (show Below w.heap.size w W2 by rw [hW2]; exact (((Below.refl _ _).alloc (Nat.le_refl _) _).alloc (by simp) _).alloc (by simp; omega) _)
  have h3 := alloc3 w X Y Z
  rw [← hW2] at h3
  obtain ⟨Ba, hBa⟩ : ∃ b, b = w.heap.size := ⟨_, rfl⟩
  obtain ⟨Bb, hBb⟩ : ∃ b, b = w.heap.size + 1 := ⟨_, rfl⟩
  obtain ⟨Bc, hBc⟩ : ∃ b, b = w.heap.size + 1 + 1 := ⟨_, rfl⟩
  rw [← hBc, ← hBb, ← hBa] at h3 ⊢
  have HA2 := Lib.hid (show W2.heap[Ba]? = some (.cells xa.cells.toArray 24 (0, 0)) by rw [← HX.out]; exact h3.1)
  have HB2 := Lib.hid (show W2.heap[Bb]? = some (.cells xb.cells.toArray 24 (0, 0)) by rw [← HY.out]; exact h3.2.1)
  have HC2 := Lib.hid (show W2.heap[Bc]? = some (.cells xc.cells.toArray 24 (0, 0)) by rw [← HZ.out]; exact h3.2.2)
  clear hW2 hBa hBb hBc h3
  go_wp2_with fail
  refine (head_any W2).mono ?_
  rintro r W3 ⟨rfl, hb3⟩
  have B3 := Lib.hid (below_trans B2.out hb3 B2.out.size)
  have HA3 := Lib.hid (blk_below HA2.out hb3)
  have HB3 := Lib.hid (blk_below HB2.out hb3)
  have HC3 := Lib.hid (blk_below HC2.out hb3)
  clear hb3
  obtain ⟨x1, hx1⟩ : ∃ z, z = xa.cls := ⟨_, rfl⟩
  have X1 := Lib.hid hx1
  clear hx1
  obtain ⟨x2, hx2⟩ : ∃ z, z = xa.tick := ⟨_, rfl⟩
  have X2 := Lib.hid hx2
  clear hx2
  obtain ⟨x3, hx3⟩ : ∃ z, z = xa.id := ⟨_, rfl⟩
  have X3 := Lib.hid hx3
  clear hx3
  obtain ⟨y1, hy1⟩ : ∃ z, z = xb.cls := ⟨_, rfl⟩
  have Y1 := Lib.hid hy1
  clear hy1
  obtain ⟨y2, hy2⟩ : ∃ z, z = xb.tick := ⟨_, rfl⟩
  have Y2 := Lib.hid hy2
  clear hy2
  obtain ⟨y3, hy3⟩ : ∃ z, z = xb.id := ⟨_, rfl⟩
  have Y3 := Lib.hid hy3
  clear hy3
  rcases Int.lt_trichotomy xa.cls xb.cls with HH | HH | HH
  · skip
    have FQ := Lib.hid (show first xa xb = true by rw [first_eq]; rw [if_neg (by omega)]; exact decide_eq_true (by omega))
    have FT := Lib.hid (show first xb xa = false by rw [first_eq]; rw [if_neg (by omega)]; exact decide_eq_false (by omega))
    have C1 := Lib.hid (show ¬ y1 ≤ x1 by rw [X1.out, Y1.out]; omega)
    have d1 : (x1 == y1) = false := by rw [X1.out, Y1.out]; simp; omega
    have D1 : decide (x1 = y1) = false := decide_eq_false (by rw [X1.out, Y1.out]; omega)
    clear HH
    have ca1 : W3.cell? ⟨Ba, 1, none⟩ = some (.int .i64 x1) := by rw [X1.out]; exact at_item HA3.out 1 (by rw [Item.cells_length]; decide)
    have ca2 : W3.cell? ⟨Ba, 2, none⟩ = some (.int .i64 x2) := by rw [X2.out]; exact at_item HA3.out 2 (by rw [Item.cells_length]; decide)
    have ca0 : W3.cell? ⟨Ba, 0, none⟩ = some (.int .i64 x3) := by rw [X3.out]; exact at_item HA3.out 0 (by rw [Item.cells_length]; decide)
    have cb1 : W3.cell? ⟨Bb, 1, none⟩ = some (.int .i64 y1) := by rw [Y1.out]; exact at_item HB3.out 1 (by rw [Item.cells_length]; decide)
    have cb2 : W3.cell? ⟨Bb, 2, none⟩ = some (.int .i64 y2) := by rw [Y2.out]; exact at_item HB3.out 2 (by rw [Item.cells_length]; decide)
    have cb0 : W3.cell? ⟨Bb, 0, none⟩ = some (.int .i64 y3) := by rw [Y3.out]; exact at_item HB3.out 0 (by rw [Item.cells_length]; decide)
    go_upto_region 3 with fail
    clear ca0 ca1 ca2 cb0 cb1 cb2 d1 D1
    obtain ⟨rr, hrr⟩ : ∃ z, z = first xb xc := ⟨_, rfl⟩
    cases rr with
    | false =>
      have FR := Lib.hid hrr.symm
      clear hrr
      go_wp2_with (first | (refine unguard rfl ?_; refine wpList_load_row rfl 24 (.tmp 3) rfl Ba rfl 24 xa.cells.toArray (0, 0) _ HA3.out Try.underlying24 rfl (HI5.out xa) ?_) | (refine unguard rfl ?_; refine wpList_load_row rfl 24 (.tmp 4) rfl Bb rfl 24 xb.cells.toArray (0, 0) _ HB3.out Try.underlying24 rfl (HI5.out xb) ?_) | (refine unguard rfl ?_; refine wpList_load_row rfl 24 (.tmp 5) rfl Bc rfl 24 xc.cells.toArray (0, 0) _ HC3.out Try.underlying24 rfl (HI5.out xc) ?_))
      refine (first_any xa xa W3).mono ?_
      rintro r V1 ⟨rfl, hb1⟩
      rw [FAA.out]
      have B1 := Lib.hid (below_trans B3.out hb1 B3.out.size)
      have HA1 := Lib.hid (blk_below HA3.out hb1)
      have HB1 := Lib.hid (blk_below HB3.out hb1)
      have HC1 := Lib.hid (blk_below HC3.out hb1)
      clear hb1
      go_wp2_with (first | (refine unguard rfl ?_; refine wpList_load_row rfl 24 (.tmp 3) rfl Ba rfl 24 xa.cells.toArray (0, 0) _ HA1.out Try.underlying24 rfl (HI5.out xa) ?_) | (refine unguard rfl ?_; refine wpList_load_row rfl 24 (.tmp 4) rfl Bb rfl 24 xb.cells.toArray (0, 0) _ HB1.out Try.underlying24 rfl (HI5.out xb) ?_) | (refine unguard rfl ?_; refine wpList_load_row rfl 24 (.tmp 5) rfl Bc rfl 24 xc.cells.toArray (0, 0) _ HC1.out Try.underlying24 rfl (HI5.out xc) ?_))
      refine (first_any xa xb V1).mono ?_
      rintro r V2 ⟨rfl, hb2⟩
      rw [FQ.out]
      have B2 := Lib.hid (below_trans B1.out hb2 B1.out.size)
      have HA2 := Lib.hid (blk_below HA1.out hb2)
      have HB2 := Lib.hid (blk_below HB1.out hb2)
      have HC2 := Lib.hid (blk_below HC1.out hb2)
      clear hb2
      go_wp2_with (first | (refine unguard rfl ?_; refine wpList_load_row rfl 24 (.tmp 3) rfl Ba rfl 24 xa.cells.toArray (0, 0) _ HA2.out Try.underlying24 rfl (HI5.out xa) ?_) | (refine unguard rfl ?_; refine wpList_load_row rfl 24 (.tmp 4) rfl Bb rfl 24 xb.cells.toArray (0, 0) _ HB2.out Try.underlying24 rfl (HI5.out xb) ?_) | (refine unguard rfl ?_; refine wpList_load_row rfl 24 (.tmp 5) rfl Bc rfl 24 xc.cells.toArray (0, 0) _ HC2.out Try.underlying24 rfl (HI5.out xc) ?_))
      refine (first_any xb xc V2).mono ?_
      rintro r V3 ⟨rfl, hb3⟩
      rw [FR.out]
      have B3 := Lib.hid (below_trans B2.out hb3 B2.out.size)
      have HA3 := Lib.hid (blk_below HA2.out hb3)
      have HB3 := Lib.hid (blk_below HB2.out hb3)
      have HC3 := Lib.hid (blk_below HC2.out hb3)
      clear hb3
      go_wp2_with (first | (refine unguard rfl ?_; refine wpList_load_row rfl 24 (.tmp 3) rfl Ba rfl 24 xa.cells.toArray (0, 0) _ HA3.out Try.underlying24 rfl (HI5.out xa) ?_) | (refine unguard rfl ?_; refine wpList_load_row rfl 24 (.tmp 4) rfl Bb rfl 24 xb.cells.toArray (0, 0) _ HB3.out Try.underlying24 rfl (HI5.out xb) ?_) | (refine unguard rfl ?_; refine wpList_load_row rfl 24 (.tmp 5) rfl Bc rfl 24 xc.cells.toArray (0, 0) _ HC3.out Try.underlying24 rfl (HI5.out xc) ?_))
      refine (first_any xa xb V3).mono ?_
      rintro r V4 ⟨rfl, hb4⟩
      rw [FQ.out]
      have B4 := Lib.hid (below_trans B3.out hb4 B3.out.size)
      have HA4 := Lib.hid (blk_below HA3.out hb4)
      have HB4 := Lib.hid (blk_below HB3.out hb4)
      have HC4 := Lib.hid (blk_below HC3.out hb4)
      clear hb4
      go_wp2_with (first | (refine unguard rfl ?_; refine wpList_load_row rfl 24 (.tmp 3) rfl Ba rfl 24 xa.cells.toArray (0, 0) _ HA4.out Try.underlying24 rfl (HI5.out xa) ?_) | (refine unguard rfl ?_; refine wpList_load_row rfl 24 (.tmp 4) rfl Bb rfl 24 xb.cells.toArray (0, 0) _ HB4.out Try.underlying24 rfl (HI5.out xb) ?_) | (refine unguard rfl ?_; refine wpList_load_row rfl 24 (.tmp 5) rfl Bc rfl 24 xc.cells.toArray (0, 0) _ HC4.out Try.underlying24 rfl (HI5.out xc) ?_))
      refine (first_any xa xb V4).mono ?_
      rintro r V5 ⟨rfl, hb5⟩
      rw [FQ.out]
      have B5 := Lib.hid (below_trans B4.out hb5 B4.out.size)
      have HA5 := Lib.hid (blk_below HA4.out hb5)
      have HB5 := Lib.hid (blk_below HB4.out hb5)
      have HC5 := Lib.hid (blk_below HC4.out hb5)
      clear hb5
      go_wp2_with (first | (refine unguard rfl ?_; refine wpList_load_row rfl 24 (.tmp 3) rfl Ba rfl 24 xa.cells.toArray (0, 0) _ HA5.out Try.underlying24 rfl (HI5.out xa) ?_) | (refine unguard rfl ?_; refine wpList_load_row rfl 24 (.tmp 4) rfl Bb rfl 24 xb.cells.toArray (0, 0) _ HB5.out Try.underlying24 rfl (HI5.out xb) ?_) | (refine unguard rfl ?_; refine wpList_load_row rfl 24 (.tmp 5) rfl Bc rfl 24 xc.cells.toArray (0, 0) _ HC5.out Try.underlying24 rfl (HI5.out xc) ?_))
      refine (first_any xb xa V5).mono ?_
      rintro r V6 ⟨rfl, hb6⟩
      rw [FT.out]
      have B6 := Lib.hid (below_trans B5.out hb6 B5.out.size)
      have HA6 := Lib.hid (blk_below HA5.out hb6)
      have HB6 := Lib.hid (blk_below HB5.out hb6)
      have HC6 := Lib.hid (blk_below HC5.out hb6)
      clear hb6
      have ca1 : V6.cell? ⟨Ba, 1, none⟩ = some (.int .i64 x1) := by rw [X1.out]; exact at_item HA6.out 1 (by rw [Item.cells_length]; decide)
      have cb1 : V6.cell? ⟨Bb, 1, none⟩ = some (.int .i64 y1) := by rw [Y1.out]; exact at_item HB6.out 1 (by rw [Item.cells_length]; decide)
      have hd5 : decide (y1 ≤ x1) = false := decide_eq_false (by have := C1.out; omega)
      have hd6 : ¬ y1 ≤ x1 := by have := C1.out; omega
      go_wp2_with (first | (refine unguard rfl ?_; refine wpList_load_row rfl 24 (.tmp 3) rfl Ba rfl 24 xa.cells.toArray (0, 0) _ HA6.out Try.underlying24 rfl (HI5.out xa) ?_) | (refine unguard rfl ?_; refine wpList_load_row rfl 24 (.tmp 4) rfl Bb rfl 24 xb.cells.toArray (0, 0) _ HB6.out Try.underlying24 rfl (HI5.out xb) ?_) | (refine unguard rfl ?_; refine wpList_load_row rfl 24 (.tmp 5) rfl Bc rfl 24 xc.cells.toArray (0, 0) _ HC6.out Try.underlying24 rfl (HI5.out xc) ?_))
      refine (first_any xa xb V6).mono ?_
      rintro r V7 ⟨rfl, hb7⟩
      rw [FQ.out]
      have B7 := Lib.hid (below_trans B6.out hb7 B6.out.size)
      clear hb7 ca1 cb1 hd5 hd6
      go_wp2
      go_ret
      exact ⟨rfl, B7.out⟩
    | true =>
      have FR := Lib.hid hrr.symm
      have FS : Hid (first xa xc = true) := Lib.hid (first_iff.2 (kc_ltle (first_iff.1 FQ.out) (kc_le_of_lt (first_iff.1 FR.out))))
      clear hrr
      go_wp2_with (first | (refine unguard rfl ?_; refine wpList_load_row rfl 24 (.tmp 3) rfl Ba rfl 24 xa.cells.toArray (0, 0) _ HA3.out Try.underlying24 rfl (HI5.out xa) ?_) | (refine unguard rfl ?_; refine wpList_load_row rfl 24 (.tmp 4) rfl Bb rfl 24 xb.cells.toArray (0, 0) _ HB3.out Try.underlying24 rfl (HI5.out xb) ?_) | (refine unguard rfl ?_; refine wpList_load_row rfl 24 (.tmp 5) rfl Bc rfl 24 xc.cells.toArray (0, 0) _ HC3.out Try.underlying24 rfl (HI5.out xc) ?_))
      refine (first_any xa xa W3).mono ?_
      rintro r V8 ⟨rfl, hb8⟩
      rw [FAA.out]
      have B8 := Lib.hid (below_trans B3.out hb8 B3.out.size)
      have HA8 := Lib.hid (blk_below HA3.out hb8)
      have HB8 := Lib.hid (blk_below HB3.out hb8)
      have HC8 := Lib.hid (blk_below HC3.out hb8)
      clear hb8
      go_wp2_with (first | (refine unguard rfl ?_; refine wpList_load_row rfl 24 (.tmp 3) rfl Ba rfl 24 xa.cells.toArray (0, 0) _ HA8.out Try.underlying24 rfl (HI5.out xa) ?_) | (refine unguard rfl ?_; refine wpList_load_row rfl 24 (.tmp 4) rfl Bb rfl 24 xb.cells.toArray (0, 0) _ HB8.out Try.underlying24 rfl (HI5.out xb) ?_) | (refine unguard rfl ?_; refine wpList_load_row rfl 24 (.tmp 5) rfl Bc rfl 24 xc.cells.toArray (0, 0) _ HC8.out Try.underlying24 rfl (HI5.out xc) ?_))
      refine (first_any xa xb V8).mono ?_
      rintro r V9 ⟨rfl, hb9⟩
      rw [FQ.out]
      have B9 := Lib.hid (below_trans B8.out hb9 B8.out.size)
      have HA9 := Lib.hid (blk_below HA8.out hb9)
      have HB9 := Lib.hid (blk_below HB8.out hb9)
      have HC9 := Lib.hid (blk_below HC8.out hb9)
      clear hb9
      go_wp2_with (first | (refine unguard rfl ?_; refine wpList_load_row rfl 24 (.tmp 3) rfl Ba rfl 24 xa.cells.toArray (0, 0) _ HA9.out Try.underlying24 rfl (HI5.out xa) ?_) | (refine unguard rfl ?_; refine wpList_load_row rfl 24 (.tmp 4) rfl Bb rfl 24 xb.cells.toArray (0, 0) _ HB9.out Try.underlying24 rfl (HI5.out xb) ?_) | (refine unguard rfl ?_; refine wpList_load_row rfl 24 (.tmp 5) rfl Bc rfl 24 xc.cells.toArray (0, 0) _ HC9.out Try.underlying24 rfl (HI5.out xc) ?_))
      refine (first_any xb xc V9).mono ?_
      rintro r V10 ⟨rfl, hb10⟩
      rw [FR.out]
      have B10 := Lib.hid (below_trans B9.out hb10 B9.out.size)
      have HA10 := Lib.hid (blk_below HA9.out hb10)
      have HB10 := Lib.hid (blk_below HB9.out hb10)
      have HC10 := Lib.hid (blk_below HC9.out hb10)
      clear hb10
      go_wp2_with (first | (refine unguard rfl ?_; refine wpList_load_row rfl 24 (.tmp 3) rfl Ba rfl 24 xa.cells.toArray (0, 0) _ HA10.out Try.underlying24 rfl (HI5.out xa) ?_) | (refine unguard rfl ?_; refine wpList_load_row rfl 24 (.tmp 4) rfl Bb rfl 24 xb.cells.toArray (0, 0) _ HB10.out Try.underlying24 rfl (HI5.out xb) ?_) | (refine unguard rfl ?_; refine wpList_load_row rfl 24 (.tmp 5) rfl Bc rfl 24 xc.cells.toArray (0, 0) _ HC10.out Try.underlying24 rfl (HI5.out xc) ?_))
      refine (first_any xa xc V10).mono ?_
      rintro r V11 ⟨rfl, hb11⟩
      rw [FS.out]
      have B11 := Lib.hid (below_trans B10.out hb11 B10.out.size)
      have HA11 := Lib.hid (blk_below HA10.out hb11)
      have HB11 := Lib.hid (blk_below HB10.out hb11)
      have HC11 := Lib.hid (blk_below HC10.out hb11)
      clear hb11
      go_wp2_with (first | (refine unguard rfl ?_; refine wpList_load_row rfl 24 (.tmp 3) rfl Ba rfl 24 xa.cells.toArray (0, 0) _ HA11.out Try.underlying24 rfl (HI5.out xa) ?_) | (refine unguard rfl ?_; refine wpList_load_row rfl 24 (.tmp 4) rfl Bb rfl 24 xb.cells.toArray (0, 0) _ HB11.out Try.underlying24 rfl (HI5.out xb) ?_) | (refine unguard rfl ?_; refine wpList_load_row rfl 24 (.tmp 5) rfl Bc rfl 24 xc.cells.toArray (0, 0) _ HC11.out Try.underlying24 rfl (HI5.out xc) ?_))
      refine (first_any xa xb V11).mono ?_
      rintro r V12 ⟨rfl, hb12⟩
      rw [FQ.out]
      have B12 := Lib.hid (below_trans B11.out hb12 B11.out.size)
      have HA12 := Lib.hid (blk_below HA11.out hb12)
      have HB12 := Lib.hid (blk_below HB11.out hb12)
      have HC12 := Lib.hid (blk_below HC11.out hb12)
      clear hb12
      go_wp2_with (first | (refine unguard rfl ?_; refine wpList_load_row rfl 24 (.tmp 3) rfl Ba rfl 24 xa.cells.toArray (0, 0) _ HA12.out Try.underlying24 rfl (HI5.out xa) ?_) | (refine unguard rfl ?_; refine wpList_load_row rfl 24 (.tmp 4) rfl Bb rfl 24 xb.cells.toArray (0, 0) _ HB12.out Try.underlying24 rfl (HI5.out xb) ?_) | (refine unguard rfl ?_; refine wpList_load_row rfl 24 (.tmp 5) rfl Bc rfl 24 xc.cells.toArray (0, 0) _ HC12.out Try.underlying24 rfl (HI5.out xc) ?_))
      refine (first_any xa xb V12).mono ?_
      rintro r V13 ⟨rfl, hb13⟩
      rw [FQ.out]
      have B13 := Lib.hid (below_trans B12.out hb13 B12.out.size)
      have HA13 := Lib.hid (blk_below HA12.out hb13)
      have HB13 := Lib.hid (blk_below HB12.out hb13)
      have HC13 := Lib.hid (blk_below HC12.out hb13)
      clear hb13
      go_wp2_with (first | (refine unguard rfl ?_; refine wpList_load_row rfl 24 (.tmp 3) rfl Ba rfl 24 xa.cells.toArray (0, 0) _ HA13.out Try.underlying24 rfl (HI5.out xa) ?_) | (refine unguard rfl ?_; refine wpList_load_row rfl 24 (.tmp 4) rfl Bb rfl 24 xb.cells.toArray (0, 0) _ HB13.out Try.underlying24 rfl (HI5.out xb) ?_) | (refine unguard rfl ?_; refine wpList_load_row rfl 24 (.tmp 5) rfl Bc rfl 24 xc.cells.toArray (0, 0) _ HC13.out Try.underlying24 rfl (HI5.out xc) ?_))
      refine (first_any xb xa V13).mono ?_
      rintro r V14 ⟨rfl, hb14⟩
      rw [FT.out]
      have B14 := Lib.hid (below_trans B13.out hb14 B13.out.size)
      have HA14 := Lib.hid (blk_below HA13.out hb14)
      have HB14 := Lib.hid (blk_below HB13.out hb14)
      have HC14 := Lib.hid (blk_below HC13.out hb14)
      clear hb14
      have ca1 : V14.cell? ⟨Ba, 1, none⟩ = some (.int .i64 x1) := by rw [X1.out]; exact at_item HA14.out 1 (by rw [Item.cells_length]; decide)
      have cb1 : V14.cell? ⟨Bb, 1, none⟩ = some (.int .i64 y1) := by rw [Y1.out]; exact at_item HB14.out 1 (by rw [Item.cells_length]; decide)
      have hd5 : decide (y1 ≤ x1) = false := decide_eq_false (by have := C1.out; omega)
      have hd6 : ¬ y1 ≤ x1 := by have := C1.out; omega
      go_wp2_with (first | (refine unguard rfl ?_; refine wpList_load_row rfl 24 (.tmp 3) rfl Ba rfl 24 xa.cells.toArray (0, 0) _ HA14.out Try.underlying24 rfl (HI5.out xa) ?_) | (refine unguard rfl ?_; refine wpList_load_row rfl 24 (.tmp 4) rfl Bb rfl 24 xb.cells.toArray (0, 0) _ HB14.out Try.underlying24 rfl (HI5.out xb) ?_) | (refine unguard rfl ?_; refine wpList_load_row rfl 24 (.tmp 5) rfl Bc rfl 24 xc.cells.toArray (0, 0) _ HC14.out Try.underlying24 rfl (HI5.out xc) ?_))
      refine (first_any xa xb V14).mono ?_
      rintro r V15 ⟨rfl, hb15⟩
      rw [FQ.out]
      have B15 := Lib.hid (below_trans B14.out hb15 B14.out.size)
      clear hb15 ca1 cb1 hd5 hd6
      go_wp2
      go_ret
      exact ⟨rfl, B15.out⟩
  · have HH1 := Lib.hid HH
    clear HH
    rcases Int.lt_trichotomy xa.tick xb.tick with HH | HH | HH
    · skip
      have FQ := Lib.hid (show first xa xb = true by rw [first_eq]; rw [if_pos HH1.out, if_neg (by omega)]; exact decide_eq_true (by omega))
      have FT := Lib.hid (show first xb xa = false by rw [first_eq]; rw [if_pos HH1.out.symm, if_neg (by omega)]; exact decide_eq_false (by omega))
      have C1 := Lib.hid (show y1 ≤ x1 by rw [X1.out, Y1.out]; have := HH1.out; omega)
      have d1 : (x1 == y1) = true := by rw [X1.out, Y1.out]; simp; exact HH1.out
      have D1 : decide (x1 = y1) = true := decide_eq_true (by rw [X1.out, Y1.out]; have := HH1.out; omega)
      have d2 : (x2 == y2) = false := by rw [X2.out, Y2.out]; simp; omega
      have D2 : decide (x2 = y2) = false := decide_eq_false (by rw [X2.out, Y2.out]; omega)
      clear HH
      have ca1 : W3.cell? ⟨Ba, 1, none⟩ = some (.int .i64 x1) := by rw [X1.out]; exact at_item HA3.out 1 (by rw [Item.cells_length]; decide)
      have ca2 : W3.cell? ⟨Ba, 2, none⟩ = some (.int .i64 x2) := by rw [X2.out]; exact at_item HA3.out 2 (by rw [Item.cells_length]; decide)
      have ca0 : W3.cell? ⟨Ba, 0, none⟩ = some (.int .i64 x3) := by rw [X3.out]; exact at_item HA3.out 0 (by rw [Item.cells_length]; decide)
      have cb1 : W3.cell? ⟨Bb, 1, none⟩ = some (.int .i64 y1) := by rw [Y1.out]; exact at_item HB3.out 1 (by rw [Item.cells_length]; decide)
      have cb2 : W3.cell? ⟨Bb, 2, none⟩ = some (.int .i64 y2) := by rw [Y2.out]; exact at_item HB3.out 2 (by rw [Item.cells_length]; decide)
      have cb0 : W3.cell? ⟨Bb, 0, none⟩ = some (.int .i64 y3) := by rw [Y3.out]; exact at_item HB3.out 0 (by rw [Item.cells_length]; decide)
      go_upto_region 3 with fail
      clear ca0 ca1 ca2 cb0 cb1 cb2 d1 D1 d2 D2
      obtain ⟨rr, hrr⟩ : ∃ z, z = first xb xc := ⟨_, rfl⟩
      cases rr with
      | false =>
        have FR := Lib.hid hrr.symm
        clear hrr
        go_wp2_with (first | (refine unguard rfl ?_; refine wpList_load_row rfl 24 (.tmp 3) rfl Ba rfl 24 xa.cells.toArray (0, 0) _ HA3.out Try.underlying24 rfl (HI5.out xa) ?_) | (refine unguard rfl ?_; refine wpList_load_row rfl 24 (.tmp 4) rfl Bb rfl 24 xb.cells.toArray (0, 0) _ HB3.out Try.underlying24 rfl (HI5.out xb) ?_) | (refine unguard rfl ?_; refine wpList_load_row rfl 24 (.tmp 5) rfl Bc rfl 24 xc.cells.toArray (0, 0) _ HC3.out Try.underlying24 rfl (HI5.out xc) ?_))
        refine (first_any xa xa W3).mono ?_
        rintro r V16 ⟨rfl, hb16⟩
        rw [FAA.out]
        have B16 := Lib.hid (below_trans B3.out hb16 B3.out.size)
        have HA16 := Lib.hid (blk_below HA3.out hb16)
        have HB16 := Lib.hid (blk_below HB3.out hb16)
        have HC16 := Lib.hid (blk_below HC3.out hb16)
        clear hb16
        go_wp2_with (first | (refine unguard rfl ?_; refine wpList_load_row rfl 24 (.tmp 3) rfl Ba rfl 24 xa.cells.toArray (0, 0) _ HA16.out Try.underlying24 rfl (HI5.out xa) ?_) | (refine unguard rfl ?_; refine wpList_load_row rfl 24 (.tmp 4) rfl Bb rfl 24 xb.cells.toArray (0, 0) _ HB16.out Try.underlying24 rfl (HI5.out xb) ?_) | (refine unguard rfl ?_; refine wpList_load_row rfl 24 (.tmp 5) rfl Bc rfl 24 xc.cells.toArray (0, 0) _ HC16.out Try.underlying24 rfl (HI5.out xc) ?_))
        refine (first_any xa xb V16).mono ?_
        rintro r V17 ⟨rfl, hb17⟩
        rw [FQ.out]
        have B17 := Lib.hid (below_trans B16.out hb17 B16.out.size)
        have HA17 := Lib.hid (blk_below HA16.out hb17)
        have HB17 := Lib.hid (blk_below HB16.out hb17)
        have HC17 := Lib.hid (blk_below HC16.out hb17)
        clear hb17
        go_wp2_with (first | (refine unguard rfl ?_; refine wpList_load_row rfl 24 (.tmp 3) rfl Ba rfl 24 xa.cells.toArray (0, 0) _ HA17.out Try.underlying24 rfl (HI5.out xa) ?_) | (refine unguard rfl ?_; refine wpList_load_row rfl 24 (.tmp 4) rfl Bb rfl 24 xb.cells.toArray (0, 0) _ HB17.out Try.underlying24 rfl (HI5.out xb) ?_) | (refine unguard rfl ?_; refine wpList_load_row rfl 24 (.tmp 5) rfl Bc rfl 24 xc.cells.toArray (0, 0) _ HC17.out Try.underlying24 rfl (HI5.out xc) ?_))
        refine (first_any xb xc V17).mono ?_
        rintro r V18 ⟨rfl, hb18⟩
        rw [FR.out]
        have B18 := Lib.hid (below_trans B17.out hb18 B17.out.size)
        have HA18 := Lib.hid (blk_below HA17.out hb18)
        have HB18 := Lib.hid (blk_below HB17.out hb18)
        have HC18 := Lib.hid (blk_below HC17.out hb18)
        clear hb18
        go_wp2_with (first | (refine unguard rfl ?_; refine wpList_load_row rfl 24 (.tmp 3) rfl Ba rfl 24 xa.cells.toArray (0, 0) _ HA18.out Try.underlying24 rfl (HI5.out xa) ?_) | (refine unguard rfl ?_; refine wpList_load_row rfl 24 (.tmp 4) rfl Bb rfl 24 xb.cells.toArray (0, 0) _ HB18.out Try.underlying24 rfl (HI5.out xb) ?_) | (refine unguard rfl ?_; refine wpList_load_row rfl 24 (.tmp 5) rfl Bc rfl 24 xc.cells.toArray (0, 0) _ HC18.out Try.underlying24 rfl (HI5.out xc) ?_))
        refine (first_any xa xb V18).mono ?_
        rintro r V19 ⟨rfl, hb19⟩
        rw [FQ.out]
        have B19 := Lib.hid (below_trans B18.out hb19 B18.out.size)
        have HA19 := Lib.hid (blk_below HA18.out hb19)
        have HB19 := Lib.hid (blk_below HB18.out hb19)
        have HC19 := Lib.hid (blk_below HC18.out hb19)
        clear hb19
        go_wp2_with (first | (refine unguard rfl ?_; refine wpList_load_row rfl 24 (.tmp 3) rfl Ba rfl 24 xa.cells.toArray (0, 0) _ HA19.out Try.underlying24 rfl (HI5.out xa) ?_) | (refine unguard rfl ?_; refine wpList_load_row rfl 24 (.tmp 4) rfl Bb rfl 24 xb.cells.toArray (0, 0) _ HB19.out Try.underlying24 rfl (HI5.out xb) ?_) | (refine unguard rfl ?_; refine wpList_load_row rfl 24 (.tmp 5) rfl Bc rfl 24 xc.cells.toArray (0, 0) _ HC19.out Try.underlying24 rfl (HI5.out xc) ?_))
        refine (first_any xa xb V19).mono ?_
        rintro r V20 ⟨rfl, hb20⟩
        rw [FQ.out]
        have B20 := Lib.hid (below_trans B19.out hb20 B19.out.size)
        have HA20 := Lib.hid (blk_below HA19.out hb20)
        have HB20 := Lib.hid (blk_below HB19.out hb20)
        have HC20 := Lib.hid (blk_below HC19.out hb20)
        clear hb20
        go_wp2_with (first | (refine unguard rfl ?_; refine wpList_load_row rfl 24 (.tmp 3) rfl Ba rfl 24 xa.cells.toArray (0, 0) _ HA20.out Try.underlying24 rfl (HI5.out xa) ?_) | (refine unguard rfl ?_; refine wpList_load_row rfl 24 (.tmp 4) rfl Bb rfl 24 xb.cells.toArray (0, 0) _ HB20.out Try.underlying24 rfl (HI5.out xb) ?_) | (refine unguard rfl ?_; refine wpList_load_row rfl 24 (.tmp 5) rfl Bc rfl 24 xc.cells.toArray (0, 0) _ HC20.out Try.underlying24 rfl (HI5.out xc) ?_))
        refine (first_any xb xa V20).mono ?_
        rintro r V21 ⟨rfl, hb21⟩
        rw [FT.out]
        have B21 := Lib.hid (below_trans B20.out hb21 B20.out.size)
        have HA21 := Lib.hid (blk_below HA20.out hb21)
        have HB21 := Lib.hid (blk_below HB20.out hb21)
        have HC21 := Lib.hid (blk_below HC20.out hb21)
        clear hb21
        have ca1 : V21.cell? ⟨Ba, 1, none⟩ = some (.int .i64 x1) := by rw [X1.out]; exact at_item HA21.out 1 (by rw [Item.cells_length]; decide)
        have cb1 : V21.cell? ⟨Bb, 1, none⟩ = some (.int .i64 y1) := by rw [Y1.out]; exact at_item HB21.out 1 (by rw [Item.cells_length]; decide)
        have hd5 : decide (y1 ≤ x1) = true := decide_eq_true (by have := C1.out; omega)
        have hd6 : y1 ≤ x1 := by have := C1.out; omega
        go_wp2
        go_ret
        exact ⟨rfl, B21.out⟩
      | true =>
        have FR := Lib.hid hrr.symm
        have FS : Hid (first xa xc = true) := Lib.hid (first_iff.2 (kc_ltle (first_iff.1 FQ.out) (kc_le_of_lt (first_iff.1 FR.out))))
        clear hrr
        go_wp2_with (first | (refine unguard rfl ?_; refine wpList_load_row rfl 24 (.tmp 3) rfl Ba rfl 24 xa.cells.toArray (0, 0) _ HA3.out Try.underlying24 rfl (HI5.out xa) ?_) | (refine unguard rfl ?_; refine wpList_load_row rfl 24 (.tmp 4) rfl Bb rfl 24 xb.cells.toArray (0, 0) _ HB3.out Try.underlying24 rfl (HI5.out xb) ?_) | (refine unguard rfl ?_; refine wpList_load_row rfl 24 (.tmp 5) rfl Bc rfl 24 xc.cells.toArray (0, 0) _ HC3.out Try.underlying24 rfl (HI5.out xc) ?_))
        refine (first_any xa xa W3).mono ?_
        rintro r V22 ⟨rfl, hb22⟩
        rw [FAA.out]
        have B22 := Lib.hid (below_trans B3.out hb22 B3.out.size)
        have HA22 := Lib.hid (blk_below HA3.out hb22)
        have HB22 := Lib.hid (blk_below HB3.out hb22)
        have HC22 := Lib.hid (blk_below HC3.out hb22)
        clear hb22
        go_wp2_with (first | (refine unguard rfl ?_; refine wpList_load_row rfl 24 (.tmp 3) rfl Ba rfl 24 xa.cells.toArray (0, 0) _ HA22.out Try.underlying24 rfl (HI5.out xa) ?_) | (refine unguard rfl ?_; refine wpList_load_row rfl 24 (.tmp 4) rfl Bb rfl 24 xb.cells.toArray (0, 0) _ HB22.out Try.underlying24 rfl (HI5.out xb) ?_) | (refine unguard rfl ?_; refine wpList_load_row rfl 24 (.tmp 5) rfl Bc rfl 24 xc.cells.toArray (0, 0) _ HC22.out Try.underlying24 rfl (HI5.out xc) ?_))
        refine (first_any xa xb V22).mono ?_
        rintro r V23 ⟨rfl, hb23⟩
        rw [FQ.out]
        have B23 := Lib.hid (below_trans B22.out hb23 B22.out.size)
        have HA23 := Lib.hid (blk_below HA22.out hb23)
        have HB23 := Lib.hid (blk_below HB22.out hb23)
        have HC23 := Lib.hid (blk_below HC22.out hb23)
        clear hb23
        go_wp2_with (first | (refine unguard rfl ?_; refine wpList_load_row rfl 24 (.tmp 3) rfl Ba rfl 24 xa.cells.toArray (0, 0) _ HA23.out Try.underlying24 rfl (HI5.out xa) ?_) | (refine unguard rfl ?_; refine wpList_load_row rfl 24 (.tmp 4) rfl Bb rfl 24 xb.cells.toArray (0, 0) _ HB23.out Try.underlying24 rfl (HI5.out xb) ?_) | (refine unguard rfl ?_; refine wpList_load_row rfl 24 (.tmp 5) rfl Bc rfl 24 xc.cells.toArray (0, 0) _ HC23.out Try.underlying24 rfl (HI5.out xc) ?_))
        refine (first_any xb xc V23).mono ?_
        rintro r V24 ⟨rfl, hb24⟩
        rw [FR.out]
        have B24 := Lib.hid (below_trans B23.out hb24 B23.out.size)
        have HA24 := Lib.hid (blk_below HA23.out hb24)
        have HB24 := Lib.hid (blk_below HB23.out hb24)
        have HC24 := Lib.hid (blk_below HC23.out hb24)
        clear hb24
        go_wp2_with (first | (refine unguard rfl ?_; refine wpList_load_row rfl 24 (.tmp 3) rfl Ba rfl 24 xa.cells.toArray (0, 0) _ HA24.out Try.underlying24 rfl (HI5.out xa) ?_) | (refine unguard rfl ?_; refine wpList_load_row rfl 24 (.tmp 4) rfl Bb rfl 24 xb.cells.toArray (0, 0) _ HB24.out Try.underlying24 rfl (HI5.out xb) ?_) | (refine unguard rfl ?_; refine wpList_load_row rfl 24 (.tmp 5) rfl Bc rfl 24 xc.cells.toArray (0, 0) _ HC24.out Try.underlying24 rfl (HI5.out xc) ?_))
        refine (first_any xa xc V24).mono ?_
        rintro r V25 ⟨rfl, hb25⟩
        rw [FS.out]
        have B25 := Lib.hid (below_trans B24.out hb25 B24.out.size)
        have HA25 := Lib.hid (blk_below HA24.out hb25)
        have HB25 := Lib.hid (blk_below HB24.out hb25)
        have HC25 := Lib.hid (blk_below HC24.out hb25)
        clear hb25
        go_wp2_with (first | (refine unguard rfl ?_; refine wpList_load_row rfl 24 (.tmp 3) rfl Ba rfl 24 xa.cells.toArray (0, 0) _ HA25.out Try.underlying24 rfl (HI5.out xa) ?_) | (refine unguard rfl ?_; refine wpList_load_row rfl 24 (.tmp 4) rfl Bb rfl 24 xb.cells.toArray (0, 0) _ HB25.out Try.underlying24 rfl (HI5.out xb) ?_) | (refine unguard rfl ?_; refine wpList_load_row rfl 24 (.tmp 5) rfl Bc rfl 24 xc.cells.toArray (0, 0) _ HC25.out Try.underlying24 rfl (HI5.out xc) ?_))
        refine (first_any xa xb V25).mono ?_
        rintro r V26 ⟨rfl, hb26⟩
        rw [FQ.out]
        have B26 := Lib.hid (below_trans B25.out hb26 B25.out.size)
        have HA26 := Lib.hid (blk_below HA25.out hb26)
        have HB26 := Lib.hid (blk_below HB25.out hb26)
        have HC26 := Lib.hid (blk_below HC25.out hb26)
        clear hb26
        go_wp2_with (first | (refine unguard rfl ?_; refine wpList_load_row rfl 24 (.tmp 3) rfl Ba rfl 24 xa.cells.toArray (0, 0) _ HA26.out Try.underlying24 rfl (HI5.out xa) ?_) | (refine unguard rfl ?_; refine wpList_load_row rfl 24 (.tmp 4) rfl Bb rfl 24 xb.cells.toArray (0, 0) _ HB26.out Try.underlying24 rfl (HI5.out xb) ?_) | (refine unguard rfl ?_; refine wpList_load_row rfl 24 (.tmp 5) rfl Bc rfl 24 xc.cells.toArray (0, 0) _ HC26.out Try.underlying24 rfl (HI5.out xc) ?_))
        refine (first_any xa xb V26).mono ?_
        rintro r V27 ⟨rfl, hb27⟩
        rw [FQ.out]
        have B27 := Lib.hid (below_trans B26.out hb27 B26.out.size)
        have HA27 := Lib.hid (blk_below HA26.out hb27)
        have HB27 := Lib.hid (blk_below HB26.out hb27)
        have HC27 := Lib.hid (blk_below HC26.out hb27)
        clear hb27
        go_wp2_with (first | (refine unguard rfl ?_; refine wpList_load_row rfl 24 (.tmp 3) rfl Ba rfl 24 xa.cells.toArray (0, 0) _ HA27.out Try.underlying24 rfl (HI5.out xa) ?_) | (refine unguard rfl ?_; refine wpList_load_row rfl 24 (.tmp 4) rfl Bb rfl 24 xb.cells.toArray (0, 0) _ HB27.out Try.underlying24 rfl (HI5.out xb) ?_) | (refine unguard rfl ?_; refine wpList_load_row rfl 24 (.tmp 5) rfl Bc rfl 24 xc.cells.toArray (0, 0) _ HC27.out Try.underlying24 rfl (HI5.out xc) ?_))
        refine (first_any xb xa V27).mono ?_
        rintro r V28 ⟨rfl, hb28⟩
        rw [FT.out]
        have B28 := Lib.hid (below_trans B27.out hb28 B27.out.size)
        have HA28 := Lib.hid (blk_below HA27.out hb28)
        have HB28 := Lib.hid (blk_below HB27.out hb28)
        have HC28 := Lib.hid (blk_below HC27.out hb28)
        clear hb28
        have ca1 : V28.cell? ⟨Ba, 1, none⟩ = some (.int .i64 x1) := by rw [X1.out]; exact at_item HA28.out 1 (by rw [Item.cells_length]; decide)
        have cb1 : V28.cell? ⟨Bb, 1, none⟩ = some (.int .i64 y1) := by rw [Y1.out]; exact at_item HB28.out 1 (by rw [Item.cells_length]; decide)
        have hd5 : decide (y1 ≤ x1) = true := decide_eq_true (by have := C1.out; omega)
        have hd6 : y1 ≤ x1 := by have := C1.out; omega
        go_wp2
        go_ret
        exact ⟨rfl, B28.out⟩
    · have HH2 := Lib.hid HH
      clear HH
      rcases Int.lt_trichotomy xa.id xb.id with HH | HH | HH
      · skip
        have FQ := Lib.hid (show first xa xb = true by rw [first_eq]; rw [if_pos HH1.out, if_pos HH2.out]; exact decide_eq_true (by omega))
        have FT := Lib.hid (show first xb xa = false by rw [first_eq]; rw [if_pos HH1.out.symm, if_pos HH2.out.symm]; exact decide_eq_false (by omega))
        have C1 := Lib.hid (show y1 ≤ x1 by rw [X1.out, Y1.out]; have := HH1.out; omega)
        have d1 : (x1 == y1) = true := by rw [X1.out, Y1.out]; simp; exact HH1.out
        have D1 : decide (x1 = y1) = true := decide_eq_true (by rw [X1.out, Y1.out]; have := HH1.out; omega)
        have d2 : (x2 == y2) = true := by rw [X2.out, Y2.out]; simp; exact HH2.out
        have D2 : decide (x2 = y2) = true := decide_eq_true (by rw [X2.out, Y2.out]; exact HH2.out)
        have d3 : (x3 == y3) = false := by rw [X3.out, Y3.out]; simp; omega
        have D3 : decide (x3 = y3) = false := decide_eq_false (by rw [X3.out, Y3.out]; omega)
        clear HH
        have ca1 : W3.cell? ⟨Ba, 1, none⟩ = some (.int .i64 x1) := by rw [X1.out]; exact at_item HA3.out 1 (by rw [Item.cells_length]; decide)
        have ca2 : W3.cell? ⟨Ba, 2, none⟩ = some (.int .i64 x2) := by rw [X2.out]; exact at_item HA3.out 2 (by rw [Item.cells_length]; decide)
        have ca0 : W3.cell? ⟨Ba, 0, none⟩ = some (.int .i64 x3) := by rw [X3.out]; exact at_item HA3.out 0 (by rw [Item.cells_length]; decide)
        have cb1 : W3.cell? ⟨Bb, 1, none⟩ = some (.int .i64 y1) := by rw [Y1.out]; exact at_item HB3.out 1 (by rw [Item.cells_length]; decide)
        have cb2 : W3.cell? ⟨Bb, 2, none⟩ = some (.int .i64 y2) := by rw [Y2.out]; exact at_item HB3.out 2 (by rw [Item.cells_length]; decide)
        have cb0 : W3.cell? ⟨Bb, 0, none⟩ = some (.int .i64 y3) := by rw [Y3.out]; exact at_item HB3.out 0 (by rw [Item.cells_length]; decide)
        go_upto_region 3 with fail
        clear ca0 ca1 ca2 cb0 cb1 cb2 d1 D1 d2 D2 d3 D3
        obtain ⟨rr, hrr⟩ : ∃ z, z = first xb xc := ⟨_, rfl⟩
        cases rr with
        | false =>
          have FR := Lib.hid hrr.symm
          clear hrr
          go_wp2_with (first | (refine unguard rfl ?_; refine wpList_load_row rfl 24 (.tmp 3) rfl Ba rfl 24 xa.cells.toArray (0, 0) _ HA3.out Try.underlying24 rfl (HI5.out xa) ?_) | (refine unguard rfl ?_; refine wpList_load_row rfl 24 (.tmp 4) rfl Bb rfl 24 xb.cells.toArray (0, 0) _ HB3.out Try.underlying24 rfl (HI5.out xb) ?_) | (refine unguard rfl ?_; refine wpList_load_row rfl 24 (.tmp 5) rfl Bc rfl 24 xc.cells.toArray (0, 0) _ HC3.out Try.underlying24 rfl (HI5.out xc) ?_))
          refine (first_any xa xa W3).mono ?_
          rintro r V29 ⟨rfl, hb29⟩
          rw [FAA.out]
          have B29 := Lib.hid (below_trans B3.out hb29 B3.out.size)
          have HA29 := Lib.hid (blk_below HA3.out hb29)
          have HB29 := Lib.hid (blk_below HB3.out hb29)
          have HC29 := Lib.hid (blk_below HC3.out hb29)
          clear hb29
          go_wp2_with (first | (refine unguard rfl ?_; refine wpList_load_row rfl 24 (.tmp 3) rfl Ba rfl 24 xa.cells.toArray (0, 0) _ HA29.out Try.underlying24 rfl (HI5.out xa) ?_) | (refine unguard rfl ?_; refine wpList_load_row rfl 24 (.tmp 4) rfl Bb rfl 24 xb.cells.toArray (0, 0) _ HB29.out Try.underlying24 rfl (HI5.out xb) ?_) | (refine unguard rfl ?_; refine wpList_load_row rfl 24 (.tmp 5) rfl Bc rfl 24 xc.cells.toArray (0, 0) _ HC29.out Try.underlying24 rfl (HI5.out xc) ?_))
          refine (first_any xa xb V29).mono ?_
          rintro r V30 ⟨rfl, hb30⟩
          rw [FQ.out]
          have B30 := Lib.hid (below_trans B29.out hb30 B29.out.size)
          have HA30 := Lib.hid (blk_below HA29.out hb30)
          have HB30 := Lib.hid (blk_below HB29.out hb30)
          have HC30 := Lib.hid (blk_below HC29.out hb30)
          clear hb30
          go_wp2_with (first | (refine unguard rfl ?_; refine wpList_load_row rfl 24 (.tmp 3) rfl Ba rfl 24 xa.cells.toArray (0, 0) _ HA30.out Try.underlying24 rfl (HI5.out xa) ?_) | (refine unguard rfl ?_; refine wpList_load_row rfl 24 (.tmp 4) rfl Bb rfl 24 xb.cells.toArray (0, 0) _ HB30.out Try.underlying24 rfl (HI5.out xb) ?_) | (refine unguard rfl ?_; refine wpList_load_row rfl 24 (.tmp 5) rfl Bc rfl 24 xc.cells.toArray (0, 0) _ HC30.out Try.underlying24 rfl (HI5.out xc) ?_))
          refine (first_any xb xc V30).mono ?_
          rintro r V31 ⟨rfl, hb31⟩
          rw [FR.out]
          have B31 := Lib.hid (below_trans B30.out hb31 B30.out.size)
          have HA31 := Lib.hid (blk_below HA30.out hb31)
          have HB31 := Lib.hid (blk_below HB30.out hb31)
          have HC31 := Lib.hid (blk_below HC30.out hb31)
          clear hb31
          go_wp2_with (first | (refine unguard rfl ?_; refine wpList_load_row rfl 24 (.tmp 3) rfl Ba rfl 24 xa.cells.toArray (0, 0) _ HA31.out Try.underlying24 rfl (HI5.out xa) ?_) | (refine unguard rfl ?_; refine wpList_load_row rfl 24 (.tmp 4) rfl Bb rfl 24 xb.cells.toArray (0, 0) _ HB31.out Try.underlying24 rfl (HI5.out xb) ?_) | (refine unguard rfl ?_; refine wpList_load_row rfl 24 (.tmp 5) rfl Bc rfl 24 xc.cells.toArray (0, 0) _ HC31.out Try.underlying24 rfl (HI5.out xc) ?_))
          refine (first_any xa xb V31).mono ?_
          rintro r V32 ⟨rfl, hb32⟩
          rw [FQ.out]
          have B32 := Lib.hid (below_trans B31.out hb32 B31.out.size)
          have HA32 := Lib.hid (blk_below HA31.out hb32)
          have HB32 := Lib.hid (blk_below HB31.out hb32)
          have HC32 := Lib.hid (blk_below HC31.out hb32)
          clear hb32
          go_wp2_with (first | (refine unguard rfl ?_; refine wpList_load_row rfl 24 (.tmp 3) rfl Ba rfl 24 xa.cells.toArray (0, 0) _ HA32.out Try.underlying24 rfl (HI5.out xa) ?_) | (refine unguard rfl ?_; refine wpList_load_row rfl 24 (.tmp 4) rfl Bb rfl 24 xb.cells.toArray (0, 0) _ HB32.out Try.underlying24 rfl (HI5.out xb) ?_) | (refine unguard rfl ?_; refine wpList_load_row rfl 24 (.tmp 5) rfl Bc rfl 24 xc.cells.toArray (0, 0) _ HC32.out Try.underlying24 rfl (HI5.out xc) ?_))
          refine (first_any xa xb V32).mono ?_
          rintro r V33 ⟨rfl, hb33⟩
          rw [FQ.out]
          have B33 := Lib.hid (below_trans B32.out hb33 B32.out.size)
          have HA33 := Lib.hid (blk_below HA32.out hb33)
          have HB33 := Lib.hid (blk_below HB32.out hb33)
          have HC33 := Lib.hid (blk_below HC32.out hb33)
          clear hb33
          go_wp2_with (first | (refine unguard rfl ?_; refine wpList_load_row rfl 24 (.tmp 3) rfl Ba rfl 24 xa.cells.toArray (0, 0) _ HA33.out Try.underlying24 rfl (HI5.out xa) ?_) | (refine unguard rfl ?_; refine wpList_load_row rfl 24 (.tmp 4) rfl Bb rfl 24 xb.cells.toArray (0, 0) _ HB33.out Try.underlying24 rfl (HI5.out xb) ?_) | (refine unguard rfl ?_; refine wpList_load_row rfl 24 (.tmp 5) rfl Bc rfl 24 xc.cells.toArray (0, 0) _ HC33.out Try.underlying24 rfl (HI5.out xc) ?_))
          refine (first_any xb xa V33).mono ?_
          rintro r V34 ⟨rfl, hb34⟩
          rw [FT.out]
          have B34 := Lib.hid (below_trans B33.out hb34 B33.out.size)
          have HA34 := Lib.hid (blk_below HA33.out hb34)
          have HB34 := Lib.hid (blk_below HB33.out hb34)
          have HC34 := Lib.hid (blk_below HC33.out hb34)
          clear hb34
          have ca1 : V34.cell? ⟨Ba, 1, none⟩ = some (.int .i64 x1) := by rw [X1.out]; exact at_item HA34.out 1 (by rw [Item.cells_length]; decide)
          have cb1 : V34.cell? ⟨Bb, 1, none⟩ = some (.int .i64 y1) := by rw [Y1.out]; exact at_item HB34.out 1 (by rw [Item.cells_length]; decide)
          have hd5 : decide (y1 ≤ x1) = true := decide_eq_true (by have := C1.out; omega)
          have hd6 : y1 ≤ x1 := by have := C1.out; omega
          go_wp2
          go_ret
          exact ⟨rfl, B34.out⟩
        | true =>
          have FR := Lib.hid hrr.symm
          have FS : Hid (first xa xc = true) := Lib.hid (first_iff.2 (kc_ltle (first_iff.1 FQ.out) (kc_le_of_lt (first_iff.1 FR.out))))
          clear hrr
          go_wp2_with (first | (refine unguard rfl ?_; refine wpList_load_row rfl 24 (.tmp 3) rfl Ba rfl 24 xa.cells.toArray (0, 0) _ HA3.out Try.underlying24 rfl (HI5.out xa) ?_) | (refine unguard rfl ?_; refine wpList_load_row rfl 24 (.tmp 4) rfl Bb rfl 24 xb.cells.toArray (0, 0) _ HB3.out Try.underlying24 rfl (HI5.out xb) ?_) | (refine unguard rfl ?_; refine wpList_load_row rfl 24 (.tmp 5) rfl Bc rfl 24 xc.cells.toArray (0, 0) _ HC3.out Try.underlying24 rfl (HI5.out xc) ?_))
          refine (first_any xa xa W3).mono ?_
          rintro r V35 ⟨rfl, hb35⟩
          rw [FAA.out]
          have B35 := Lib.hid (below_trans B3.out hb35 B3.out.size)
          have HA35 := Lib.hid (blk_below HA3.out hb35)
          have HB35 := Lib.hid (blk_below HB3.out hb35)
          have HC35 := Lib.hid (blk_below HC3.out hb35)
          clear hb35
          go_wp2_with (first | (refine unguard rfl ?_; refine wpList_load_row rfl 24 (.tmp 3) rfl Ba rfl 24 xa.cells.toArray (0, 0) _ HA35.out Try.underlying24 rfl (HI5.out xa) ?_) | (refine unguard rfl ?_; refine wpList_load_row rfl 24 (.tmp 4) rfl Bb rfl 24 xb.cells.toArray (0, 0) _ HB35.out Try.underlying24 rfl (HI5.out xb) ?_) | (refine unguard rfl ?_; refine wpList_load_row rfl 24 (.tmp 5) rfl Bc rfl 24 xc.cells.toArray (0, 0) _ HC35.out Try.underlying24 rfl (HI5.out xc) ?_))
          refine (first_any xa xb V35).mono ?_
          rintro r V36 ⟨rfl, hb36⟩
          rw [FQ.out]
          have B36 := Lib.hid (below_trans B35.out hb36 B35.out.size)
          have HA36 := Lib.hid (blk_below HA35.out hb36)
          have HB36 := Lib.hid (blk_below HB35.out hb36)
          have HC36 := Lib.hid (blk_below HC35.out hb36)
          clear hb36
          go_wp2_with (first | (refine unguard rfl ?_; refine wpList_load_row rfl 24 (.tmp 3) rfl Ba rfl 24 xa.cells.toArray (0, 0) _ HA36.out Try.underlying24 rfl (HI5.out xa) ?_) | (refine unguard rfl ?_; refine wpList_load_row rfl 24 (.tmp 4) rfl Bb rfl 24 xb.cells.toArray (0, 0) _ HB36.out Try.underlying24 rfl (HI5.out xb) ?_) | (refine unguard rfl ?_; refine wpList_load_row rfl 24 (.tmp 5) rfl Bc rfl 24 xc.cells.toArray (0, 0) _ HC36.out Try.underlying24 rfl (HI5.out xc) ?_))
          refine (first_any xb xc V36).mono ?_
          rintro r V37 ⟨rfl, hb37⟩
          rw [FR.out]
          have B37 := Lib.hid (below_trans B36.out hb37 B36.out.size)
          have HA37 := Lib.hid (blk_below HA36.out hb37)
          have HB37 := Lib.hid (blk_below HB36.out hb37)
          have HC37 := Lib.hid (blk_below HC36.out hb37)
          clear hb37
          go_wp2_with (first | (refine unguard rfl ?_; refine wpList_load_row rfl 24 (.tmp 3) rfl Ba rfl 24 xa.cells.toArray (0, 0) _ HA37.out Try.underlying24 rfl (HI5.out xa) ?_) | (refine unguard rfl ?_; refine wpList_load_row rfl 24 (.tmp 4) rfl Bb rfl 24 xb.cells.toArray (0, 0) _ HB37.out Try.underlying24 rfl (HI5.out xb) ?_) | (refine unguard rfl ?_; refine wpList_load_row rfl 24 (.tmp 5) rfl Bc rfl 24 xc.cells.toArray (0, 0) _ HC37.out Try.underlying24 rfl (HI5.out xc) ?_))
          refine (first_any xa xc V37).mono ?_
          rintro r V38 ⟨rfl, hb38⟩
          rw [FS.out]
          have B38 := Lib.hid (below_trans B37.out hb38 B37.out.size)
          have HA38 := Lib.hid (blk_below HA37.out hb38)
          have HB38 := Lib.hid (blk_below HB37.out hb38)
          have HC38 := Lib.hid (blk_below HC37.out hb38)
          clear hb38
          go_wp2_with (first | (refine unguard rfl ?_; refine wpList_load_row rfl 24 (.tmp 3) rfl Ba rfl 24 xa.cells.toArray (0, 0) _ HA38.out Try.underlying24 rfl (HI5.out xa) ?_) | (refine unguard rfl ?_; refine wpList_load_row rfl 24 (.tmp 4) rfl Bb rfl 24 xb.cells.toArray (0, 0) _ HB38.out Try.underlying24 rfl (HI5.out xb) ?_) | (refine unguard rfl ?_; refine wpList_load_row rfl 24 (.tmp 5) rfl Bc rfl 24 xc.cells.toArray (0, 0) _ HC38.out Try.underlying24 rfl (HI5.out xc) ?_))
          refine (first_any xa xb V38).mono ?_
          rintro r V39 ⟨rfl, hb39⟩
          rw [FQ.out]
          have B39 := Lib.hid (below_trans B38.out hb39 B38.out.size)
          have HA39 := Lib.hid (blk_below HA38.out hb39)
          have HB39 := Lib.hid (blk_below HB38.out hb39)
          have HC39 := Lib.hid (blk_below HC38.out hb39)
          clear hb39
          go_wp2_with (first | (refine unguard rfl ?_; refine wpList_load_row rfl 24 (.tmp 3) rfl Ba rfl 24 xa.cells.toArray (0, 0) _ HA39.out Try.underlying24 rfl (HI5.out xa) ?_) | (refine unguard rfl ?_; refine wpList_load_row rfl 24 (.tmp 4) rfl Bb rfl 24 xb.cells.toArray (0, 0) _ HB39.out Try.underlying24 rfl (HI5.out xb) ?_) | (refine unguard rfl ?_; refine wpList_load_row rfl 24 (.tmp 5) rfl Bc rfl 24 xc.cells.toArray (0, 0) _ HC39.out Try.underlying24 rfl (HI5.out xc) ?_))
          refine (first_any xa xb V39).mono ?_
          rintro r V40 ⟨rfl, hb40⟩
          rw [FQ.out]
          have B40 := Lib.hid (below_trans B39.out hb40 B39.out.size)
          have HA40 := Lib.hid (blk_below HA39.out hb40)
          have HB40 := Lib.hid (blk_below HB39.out hb40)
          have HC40 := Lib.hid (blk_below HC39.out hb40)
          clear hb40
          go_wp2_with (first | (refine unguard rfl ?_; refine wpList_load_row rfl 24 (.tmp 3) rfl Ba rfl 24 xa.cells.toArray (0, 0) _ HA40.out Try.underlying24 rfl (HI5.out xa) ?_) | (refine unguard rfl ?_; refine wpList_load_row rfl 24 (.tmp 4) rfl Bb rfl 24 xb.cells.toArray (0, 0) _ HB40.out Try.underlying24 rfl (HI5.out xb) ?_) | (refine unguard rfl ?_; refine wpList_load_row rfl 24 (.tmp 5) rfl Bc rfl 24 xc.cells.toArray (0, 0) _ HC40.out Try.underlying24 rfl (HI5.out xc) ?_))
          refine (first_any xb xa V40).mono ?_
          rintro r V41 ⟨rfl, hb41⟩
          rw [FT.out]
          have B41 := Lib.hid (below_trans B40.out hb41 B40.out.size)
          have HA41 := Lib.hid (blk_below HA40.out hb41)
          have HB41 := Lib.hid (blk_below HB40.out hb41)
          have HC41 := Lib.hid (blk_below HC40.out hb41)
          clear hb41
          have ca1 : V41.cell? ⟨Ba, 1, none⟩ = some (.int .i64 x1) := by rw [X1.out]; exact at_item HA41.out 1 (by rw [Item.cells_length]; decide)
          have cb1 : V41.cell? ⟨Bb, 1, none⟩ = some (.int .i64 y1) := by rw [Y1.out]; exact at_item HB41.out 1 (by rw [Item.cells_length]; decide)
          have hd5 : decide (y1 ≤ x1) = true := decide_eq_true (by have := C1.out; omega)
          have hd6 : y1 ≤ x1 := by have := C1.out; omega
          go_wp2
          go_ret
          exact ⟨rfl, B41.out⟩
      · skip
        have FQ := Lib.hid (show first xa xb = false by rw [first_eq]; rw [if_pos HH1.out, if_pos HH2.out]; exact decide_eq_false (by omega))
        have FT := Lib.hid (show first xb xa = false by rw [first_eq]; rw [if_pos HH1.out.symm, if_pos HH2.out.symm]; exact decide_eq_false (by omega))
        have C1 := Lib.hid (show y1 ≤ x1 by rw [X1.out, Y1.out]; have := HH1.out; omega)
        have d1 : (x1 == y1) = true := by rw [X1.out, Y1.out]; simp; exact HH1.out
        have D1 : decide (x1 = y1) = true := decide_eq_true (by rw [X1.out, Y1.out]; have := HH1.out; omega)
        have d2 : (x2 == y2) = true := by rw [X2.out, Y2.out]; simp; exact HH2.out
        have D2 : decide (x2 = y2) = true := decide_eq_true (by rw [X2.out, Y2.out]; exact HH2.out)
        have d3 : (x3 == y3) = true := by rw [X3.out, Y3.out]; simp; omega
        have D3 : decide (x3 = y3) = true := decide_eq_true (by rw [X3.out, Y3.out]; omega)
        clear HH
        have ca1 : W3.cell? ⟨Ba, 1, none⟩ = some (.int .i64 x1) := by rw [X1.out]; exact at_item HA3.out 1 (by rw [Item.cells_length]; decide)
        have ca2 : W3.cell? ⟨Ba, 2, none⟩ = some (.int .i64 x2) := by rw [X2.out]; exact at_item HA3.out 2 (by rw [Item.cells_length]; decide)
        have ca0 : W3.cell? ⟨Ba, 0, none⟩ = some (.int .i64 x3) := by rw [X3.out]; exact at_item HA3.out 0 (by rw [Item.cells_length]; decide)
        have cb1 : W3.cell? ⟨Bb, 1, none⟩ = some (.int .i64 y1) := by rw [Y1.out]; exact at_item HB3.out 1 (by rw [Item.cells_length]; decide)
        have cb2 : W3.cell? ⟨Bb, 2, none⟩ = some (.int .i64 y2) := by rw [Y2.out]; exact at_item HB3.out 2 (by rw [Item.cells_length]; decide)
        have cb0 : W3.cell? ⟨Bb, 0, none⟩ = some (.int .i64 y3) := by rw [Y3.out]; exact at_item HB3.out 0 (by rw [Item.cells_length]; decide)
        go_upto_region 3 with fail
        clear ca0 ca1 ca2 cb0 cb1 cb2 d1 D1 d2 D2 d3 D3
        go_wp2_with (first | (refine unguard rfl ?_; refine wpList_load_row rfl 24 (.tmp 3) rfl Ba rfl 24 xa.cells.toArray (0, 0) _ HA3.out Try.underlying24 rfl (HI5.out xa) ?_) | (refine unguard rfl ?_; refine wpList_load_row rfl 24 (.tmp 4) rfl Bb rfl 24 xb.cells.toArray (0, 0) _ HB3.out Try.underlying24 rfl (HI5.out xb) ?_) | (refine unguard rfl ?_; refine wpList_load_row rfl 24 (.tmp 5) rfl Bc rfl 24 xc.cells.toArray (0, 0) _ HC3.out Try.underlying24 rfl (HI5.out xc) ?_))
        refine (first_any xa xa W3).mono ?_
        rintro r V42 ⟨rfl, hb42⟩
        rw [FAA.out]
        have B42 := Lib.hid (below_trans B3.out hb42 B3.out.size)
        have HA42 := Lib.hid (blk_below HA3.out hb42)
        have HB42 := Lib.hid (blk_below HB3.out hb42)
        have HC42 := Lib.hid (blk_below HC3.out hb42)
        clear hb42
        go_wp2_with (first | (refine unguard rfl ?_; refine wpList_load_row rfl 24 (.tmp 3) rfl Ba rfl 24 xa.cells.toArray (0, 0) _ HA42.out Try.underlying24 rfl (HI5.out xa) ?_) | (refine unguard rfl ?_; refine wpList_load_row rfl 24 (.tmp 4) rfl Bb rfl 24 xb.cells.toArray (0, 0) _ HB42.out Try.underlying24 rfl (HI5.out xb) ?_) | (refine unguard rfl ?_; refine wpList_load_row rfl 24 (.tmp 5) rfl Bc rfl 24 xc.cells.toArray (0, 0) _ HC42.out Try.underlying24 rfl (HI5.out xc) ?_))
        refine (first_any xa xb V42).mono ?_
        rintro r V43 ⟨rfl, hb43⟩
        rw [FQ.out]
        have B43 := Lib.hid (below_trans B42.out hb43 B42.out.size)
        have HA43 := Lib.hid (blk_below HA42.out hb43)
        have HB43 := Lib.hid (blk_below HB42.out hb43)
        have HC43 := Lib.hid (blk_below HC42.out hb43)
        clear hb43
        go_wp2_with (first | (refine unguard rfl ?_; refine wpList_load_row rfl 24 (.tmp 3) rfl Ba rfl 24 xa.cells.toArray (0, 0) _ HA43.out Try.underlying24 rfl (HI5.out xa) ?_) | (refine unguard rfl ?_; refine wpList_load_row rfl 24 (.tmp 4) rfl Bb rfl 24 xb.cells.toArray (0, 0) _ HB43.out Try.underlying24 rfl (HI5.out xb) ?_) | (refine unguard rfl ?_; refine wpList_load_row rfl 24 (.tmp 5) rfl Bc rfl 24 xc.cells.toArray (0, 0) _ HC43.out Try.underlying24 rfl (HI5.out xc) ?_))
        refine (first_any xa xb V43).mono ?_
        rintro r V44 ⟨rfl, hb44⟩
        rw [FQ.out]
        have B44 := Lib.hid (below_trans B43.out hb44 B43.out.size)
        have HA44 := Lib.hid (blk_below HA43.out hb44)
        have HB44 := Lib.hid (blk_below HB43.out hb44)
        have HC44 := Lib.hid (blk_below HC43.out hb44)
        clear hb44
        go_wp2_with (first | (refine unguard rfl ?_; refine wpList_load_row rfl 24 (.tmp 3) rfl Ba rfl 24 xa.cells.toArray (0, 0) _ HA44.out Try.underlying24 rfl (HI5.out xa) ?_) | (refine unguard rfl ?_; refine wpList_load_row rfl 24 (.tmp 4) rfl Bb rfl 24 xb.cells.toArray (0, 0) _ HB44.out Try.underlying24 rfl (HI5.out xb) ?_) | (refine unguard rfl ?_; refine wpList_load_row rfl 24 (.tmp 5) rfl Bc rfl 24 xc.cells.toArray (0, 0) _ HC44.out Try.underlying24 rfl (HI5.out xc) ?_))
        refine (first_any xb xa V44).mono ?_
        rintro r V45 ⟨rfl, hb45⟩
        rw [FT.out]
        have B45 := Lib.hid (below_trans B44.out hb45 B44.out.size)
        have HA45 := Lib.hid (blk_below HA44.out hb45)
        have HB45 := Lib.hid (blk_below HB44.out hb45)
        have HC45 := Lib.hid (blk_below HC44.out hb45)
        clear hb45
        go_wp2_with (first | (refine unguard rfl ?_; refine wpList_load_row rfl 24 (.tmp 3) rfl Ba rfl 24 xa.cells.toArray (0, 0) _ HA45.out Try.underlying24 rfl (HI5.out xa) ?_) | (refine unguard rfl ?_; refine wpList_load_row rfl 24 (.tmp 4) rfl Bb rfl 24 xb.cells.toArray (0, 0) _ HB45.out Try.underlying24 rfl (HI5.out xb) ?_) | (refine unguard rfl ?_; refine wpList_load_row rfl 24 (.tmp 5) rfl Bc rfl 24 xc.cells.toArray (0, 0) _ HC45.out Try.underlying24 rfl (HI5.out xc) ?_))
        refine (first_any xa xb V45).mono ?_
        rintro r V46 ⟨rfl, hb46⟩
        rw [FQ.out]
        have B46 := Lib.hid (below_trans B45.out hb46 B45.out.size)
        have HA46 := Lib.hid (blk_below HA45.out hb46)
        have HB46 := Lib.hid (blk_below HB45.out hb46)
        have HC46 := Lib.hid (blk_below HC45.out hb46)
        clear hb46
        have ca1 : V46.cell? ⟨Ba, 1, none⟩ = some (.int .i64 x1) := by rw [X1.out]; exact at_item HA46.out 1 (by rw [Item.cells_length]; decide)
        have cb1 : V46.cell? ⟨Bb, 1, none⟩ = some (.int .i64 y1) := by rw [Y1.out]; exact at_item HB46.out 1 (by rw [Item.cells_length]; decide)
        have hd5 : decide (y1 ≤ x1) = true := decide_eq_true (by have := C1.out; omega)
        have hd6 : y1 ≤ x1 := by have := C1.out; omega
        go_wp2
        go_ret
        exact ⟨rfl, B46.out⟩
      · skip
        have FQ := Lib.hid (show first xa xb = false by rw [first_eq]; rw [if_pos HH1.out, if_pos HH2.out]; exact decide_eq_false (by omega))
        have FT := Lib.hid (show first xb xa = true by rw [first_eq]; rw [if_pos HH1.out.symm, if_pos HH2.out.symm]; exact decide_eq_true (by omega))
        have C1 := Lib.hid (show y1 ≤ x1 by rw [X1.out, Y1.out]; have := HH1.out; omega)
        have d1 : (x1 == y1) = true := by rw [X1.out, Y1.out]; simp; exact HH1.out
        have D1 : decide (x1 = y1) = true := decide_eq_true (by rw [X1.out, Y1.out]; have := HH1.out; omega)
        have d2 : (x2 == y2) = true := by rw [X2.out, Y2.out]; simp; exact HH2.out
        have D2 : decide (x2 = y2) = true := decide_eq_true (by rw [X2.out, Y2.out]; exact HH2.out)
        have d3 : (x3 == y3) = false := by rw [X3.out, Y3.out]; simp; omega
        have D3 : decide (x3 = y3) = false := decide_eq_false (by rw [X3.out, Y3.out]; omega)
        clear HH
        have ca1 : W3.cell? ⟨Ba, 1, none⟩ = some (.int .i64 x1) := by rw [X1.out]; exact at_item HA3.out 1 (by rw [Item.cells_length]; decide)
        have ca2 : W3.cell? ⟨Ba, 2, none⟩ = some (.int .i64 x2) := by rw [X2.out]; exact at_item HA3.out 2 (by rw [Item.cells_length]; decide)
        have ca0 : W3.cell? ⟨Ba, 0, none⟩ = some (.int .i64 x3) := by rw [X3.out]; exact at_item HA3.out 0 (by rw [Item.cells_length]; decide)
        have cb1 : W3.cell? ⟨Bb, 1, none⟩ = some (.int .i64 y1) := by rw [Y1.out]; exact at_item HB3.out 1 (by rw [Item.cells_length]; decide)
        have cb2 : W3.cell? ⟨Bb, 2, none⟩ = some (.int .i64 y2) := by rw [Y2.out]; exact at_item HB3.out 2 (by rw [Item.cells_length]; decide)
        have cb0 : W3.cell? ⟨Bb, 0, none⟩ = some (.int .i64 y3) := by rw [Y3.out]; exact at_item HB3.out 0 (by rw [Item.cells_length]; decide)
        go_upto_region 3 with fail
        clear ca0 ca1 ca2 cb0 cb1 cb2 d1 D1 d2 D2 d3 D3
        go_wp2_with (first | (refine unguard rfl ?_; refine wpList_load_row rfl 24 (.tmp 3) rfl Ba rfl 24 xa.cells.toArray (0, 0) _ HA3.out Try.underlying24 rfl (HI5.out xa) ?_) | (refine unguard rfl ?_; refine wpList_load_row rfl 24 (.tmp 4) rfl Bb rfl 24 xb.cells.toArray (0, 0) _ HB3.out Try.underlying24 rfl (HI5.out xb) ?_) | (refine unguard rfl ?_; refine wpList_load_row rfl 24 (.tmp 5) rfl Bc rfl 24 xc.cells.toArray (0, 0) _ HC3.out Try.underlying24 rfl (HI5.out xc) ?_))
        refine (first_any xa xa W3).mono ?_
        rintro r V47 ⟨rfl, hb47⟩
        rw [FAA.out]
        have B47 := Lib.hid (below_trans B3.out hb47 B3.out.size)
        have HA47 := Lib.hid (blk_below HA3.out hb47)
        have HB47 := Lib.hid (blk_below HB3.out hb47)
        have HC47 := Lib.hid (blk_below HC3.out hb47)
        clear hb47
        go_wp2_with (first | (refine unguard rfl ?_; refine wpList_load_row rfl 24 (.tmp 3) rfl Ba rfl 24 xa.cells.toArray (0, 0) _ HA47.out Try.underlying24 rfl (HI5.out xa) ?_) | (refine unguard rfl ?_; refine wpList_load_row rfl 24 (.tmp 4) rfl Bb rfl 24 xb.cells.toArray (0, 0) _ HB47.out Try.underlying24 rfl (HI5.out xb) ?_) | (refine unguard rfl ?_; refine wpList_load_row rfl 24 (.tmp 5) rfl Bc rfl 24 xc.cells.toArray (0, 0) _ HC47.out Try.underlying24 rfl (HI5.out xc) ?_))
        refine (first_any xa xb V47).mono ?_
        rintro r V48 ⟨rfl, hb48⟩
        rw [FQ.out]
        have B48 := Lib.hid (below_trans B47.out hb48 B47.out.size)
        have HA48 := Lib.hid (blk_below HA47.out hb48)
        have HB48 := Lib.hid (blk_below HB47.out hb48)
        have HC48 := Lib.hid (blk_below HC47.out hb48)
        clear hb48
        go_wp2_with (first | (refine unguard rfl ?_; refine wpList_load_row rfl 24 (.tmp 3) rfl Ba rfl 24 xa.cells.toArray (0, 0) _ HA48.out Try.underlying24 rfl (HI5.out xa) ?_) | (refine unguard rfl ?_; refine wpList_load_row rfl 24 (.tmp 4) rfl Bb rfl 24 xb.cells.toArray (0, 0) _ HB48.out Try.underlying24 rfl (HI5.out xb) ?_) | (refine unguard rfl ?_; refine wpList_load_row rfl 24 (.tmp 5) rfl Bc rfl 24 xc.cells.toArray (0, 0) _ HC48.out Try.underlying24 rfl (HI5.out xc) ?_))
        refine (first_any xa xb V48).mono ?_
        rintro r V49 ⟨rfl, hb49⟩
        rw [FQ.out]
        have B49 := Lib.hid (below_trans B48.out hb49 B48.out.size)
        have HA49 := Lib.hid (blk_below HA48.out hb49)
        have HB49 := Lib.hid (blk_below HB48.out hb49)
        have HC49 := Lib.hid (blk_below HC48.out hb49)
        clear hb49
        go_wp2_with (first | (refine unguard rfl ?_; refine wpList_load_row rfl 24 (.tmp 3) rfl Ba rfl 24 xa.cells.toArray (0, 0) _ HA49.out Try.underlying24 rfl (HI5.out xa) ?_) | (refine unguard rfl ?_; refine wpList_load_row rfl 24 (.tmp 4) rfl Bb rfl 24 xb.cells.toArray (0, 0) _ HB49.out Try.underlying24 rfl (HI5.out xb) ?_) | (refine unguard rfl ?_; refine wpList_load_row rfl 24 (.tmp 5) rfl Bc rfl 24 xc.cells.toArray (0, 0) _ HC49.out Try.underlying24 rfl (HI5.out xc) ?_))
        refine (first_any xb xa V49).mono ?_
        rintro r V50 ⟨rfl, hb50⟩
        rw [FT.out]
        have B50 := Lib.hid (below_trans B49.out hb50 B49.out.size)
        have HA50 := Lib.hid (blk_below HA49.out hb50)
        have HB50 := Lib.hid (blk_below HB49.out hb50)
        have HC50 := Lib.hid (blk_below HC49.out hb50)
        clear hb50
        go_wp2_with (first | (refine unguard rfl ?_; refine wpList_load_row rfl 24 (.tmp 3) rfl Ba rfl 24 xa.cells.toArray (0, 0) _ HA50.out Try.underlying24 rfl (HI5.out xa) ?_) | (refine unguard rfl ?_; refine wpList_load_row rfl 24 (.tmp 4) rfl Bb rfl 24 xb.cells.toArray (0, 0) _ HB50.out Try.underlying24 rfl (HI5.out xb) ?_) | (refine unguard rfl ?_; refine wpList_load_row rfl 24 (.tmp 5) rfl Bc rfl 24 xc.cells.toArray (0, 0) _ HC50.out Try.underlying24 rfl (HI5.out xc) ?_))
        refine (first_any xa xb V50).mono ?_
        rintro r V51 ⟨rfl, hb51⟩
        rw [FQ.out]
        have B51 := Lib.hid (below_trans B50.out hb51 B50.out.size)
        have HA51 := Lib.hid (blk_below HA50.out hb51)
        have HB51 := Lib.hid (blk_below HB50.out hb51)
        have HC51 := Lib.hid (blk_below HC50.out hb51)
        clear hb51
        have ca1 : V51.cell? ⟨Ba, 1, none⟩ = some (.int .i64 x1) := by rw [X1.out]; exact at_item HA51.out 1 (by rw [Item.cells_length]; decide)
        have cb1 : V51.cell? ⟨Bb, 1, none⟩ = some (.int .i64 y1) := by rw [Y1.out]; exact at_item HB51.out 1 (by rw [Item.cells_length]; decide)
        have hd5 : decide (y1 ≤ x1) = true := decide_eq_true (by have := C1.out; omega)
        have hd6 : y1 ≤ x1 := by have := C1.out; omega
        go_wp2
        go_ret
        exact ⟨rfl, B51.out⟩
    · skip
      have FQ := Lib.hid (show first xa xb = false by rw [first_eq]; rw [if_pos HH1.out, if_neg (by omega)]; exact decide_eq_false (by omega))
      have FT := Lib.hid (show first xb xa = true by rw [first_eq]; rw [if_pos HH1.out.symm, if_neg (by omega)]; exact decide_eq_true (by omega))
      have C1 := Lib.hid (show y1 ≤ x1 by rw [X1.out, Y1.out]; have := HH1.out; omega)
      have d1 : (x1 == y1) = true := by rw [X1.out, Y1.out]; simp; exact HH1.out
      have D1 : decide (x1 = y1) = true := decide_eq_true (by rw [X1.out, Y1.out]; have := HH1.out; omega)
      have d2 : (x2 == y2) = false := by rw [X2.out, Y2.out]; simp; omega
      have D2 : decide (x2 = y2) = false := decide_eq_false (by rw [X2.out, Y2.out]; omega)
      clear HH
      have ca1 : W3.cell? ⟨Ba, 1, none⟩ = some (.int .i64 x1) := by rw [X1.out]; exact at_item HA3.out 1 (by rw [Item.cells_length]; decide)
      have ca2 : W3.cell? ⟨Ba, 2, none⟩ = some (.int .i64 x2) := by rw [X2.out]; exact at_item HA3.out 2 (by rw [Item.cells_length]; decide)
      have ca0 : W3.cell? ⟨Ba, 0, none⟩ = some (.int .i64 x3) := by rw [X3.out]; exact at_item HA3.out 0 (by rw [Item.cells_length]; decide)
      have cb1 : W3.cell? ⟨Bb, 1, none⟩ = some (.int .i64 y1) := by rw [Y1.out]; exact at_item HB3.out 1 (by rw [Item.cells_length]; decide)
      have cb2 : W3.cell? ⟨Bb, 2, none⟩ = some (.int .i64 y2) := by rw [Y2.out]; exact at_item HB3.out 2 (by rw [Item.cells_length]; decide)
      have cb0 : W3.cell? ⟨Bb, 0, none⟩ = some (.int .i64 y3) := by rw [Y3.out]; exact at_item HB3.out 0 (by rw [Item.cells_length]; decide)
      go_upto_region 3 with fail
      clear ca0 ca1 ca2 cb0 cb1 cb2 d1 D1 d2 D2
      go_wp2_with (first | (refine unguard rfl ?_; refine wpList_load_row rfl 24 (.tmp 3) rfl Ba rfl 24 xa.cells.toArray (0, 0) _ HA3.out Try.underlying24 rfl (HI5.out xa) ?_) | (refine unguard rfl ?_; refine wpList_load_row rfl 24 (.tmp 4) rfl Bb rfl 24 xb.cells.toArray (0, 0) _ HB3.out Try.underlying24 rfl (HI5.out xb) ?_) | (refine unguard rfl ?_; refine wpList_load_row rfl 24 (.tmp 5) rfl Bc rfl 24 xc.cells.toArray (0, 0) _ HC3.out Try.underlying24 rfl (HI5.out xc) ?_))
      refine (first_any xa xa W3).mono ?_
      rintro r V52 ⟨rfl, hb52⟩
      rw [FAA.out]
      have B52 := Lib.hid (below_trans B3.out hb52 B3.out.size)
      have HA52 := Lib.hid (blk_below HA3.out hb52)
      have HB52 := Lib.hid (blk_below HB3.out hb52)
      have HC52 := Lib.hid (blk_below HC3.out hb52)
      clear hb52
      go_wp2_with (first | (refine unguard rfl ?_; refine wpList_load_row rfl 24 (.tmp 3) rfl Ba rfl 24 xa.cells.toArray (0, 0) _ HA52.out Try.underlying24 rfl (HI5.out xa) ?_) | (refine unguard rfl ?_; refine wpList_load_row rfl 24 (.tmp 4) rfl Bb rfl 24 xb.cells.toArray (0, 0) _ HB52.out Try.underlying24 rfl (HI5.out xb) ?_) | (refine unguard rfl ?_; refine wpList_load_row rfl 24 (.tmp 5) rfl Bc rfl 24 xc.cells.toArray (0, 0) _ HC52.out Try.underlying24 rfl (HI5.out xc) ?_))
      refine (first_any xa xb V52).mono ?_
      rintro r V53 ⟨rfl, hb53⟩
      rw [FQ.out]
      have B53 := Lib.hid (below_trans B52.out hb53 B52.out.size)
      have HA53 := Lib.hid (blk_below HA52.out hb53)
      have HB53 := Lib.hid (blk_below HB52.out hb53)
      have HC53 := Lib.hid (blk_below HC52.out hb53)
      clear hb53
      go_wp2_with (first | (refine unguard rfl ?_; refine wpList_load_row rfl 24 (.tmp 3) rfl Ba rfl 24 xa.cells.toArray (0, 0) _ HA53.out Try.underlying24 rfl (HI5.out xa) ?_) | (refine unguard rfl ?_; refine wpList_load_row rfl 24 (.tmp 4) rfl Bb rfl 24 xb.cells.toArray (0, 0) _ HB53.out Try.underlying24 rfl (HI5.out xb) ?_) | (refine unguard rfl ?_; refine wpList_load_row rfl 24 (.tmp 5) rfl Bc rfl 24 xc.cells.toArray (0, 0) _ HC53.out Try.underlying24 rfl (HI5.out xc) ?_))
      refine (first_any xa xb V53).mono ?_
      rintro r V54 ⟨rfl, hb54⟩
      rw [FQ.out]
      have B54 := Lib.hid (below_trans B53.out hb54 B53.out.size)
      have HA54 := Lib.hid (blk_below HA53.out hb54)
      have HB54 := Lib.hid (blk_below HB53.out hb54)
      have HC54 := Lib.hid (blk_below HC53.out hb54)
      clear hb54
      go_wp2_with (first | (refine unguard rfl ?_; refine wpList_load_row rfl 24 (.tmp 3) rfl Ba rfl 24 xa.cells.toArray (0, 0) _ HA54.out Try.underlying24 rfl (HI5.out xa) ?_) | (refine unguard rfl ?_; refine wpList_load_row rfl 24 (.tmp 4) rfl Bb rfl 24 xb.cells.toArray (0, 0) _ HB54.out Try.underlying24 rfl (HI5.out xb) ?_) | (refine unguard rfl ?_; refine wpList_load_row rfl 24 (.tmp 5) rfl Bc rfl 24 xc.cells.toArray (0, 0) _ HC54.out Try.underlying24 rfl (HI5.out xc) ?_))
      refine (first_any xb xa V54).mono ?_
      rintro r V55 ⟨rfl, hb55⟩
      rw [FT.out]
      have B55 := Lib.hid (below_trans B54.out hb55 B54.out.size)
      have HA55 := Lib.hid (blk_below HA54.out hb55)
      have HB55 := Lib.hid (blk_below HB54.out hb55)
      have HC55 := Lib.hid (blk_below HC54.out hb55)
      clear hb55
      go_wp2_with (first | (refine unguard rfl ?_; refine wpList_load_row rfl 24 (.tmp 3) rfl Ba rfl 24 xa.cells.toArray (0, 0) _ HA55.out Try.underlying24 rfl (HI5.out xa) ?_) | (refine unguard rfl ?_; refine wpList_load_row rfl 24 (.tmp 4) rfl Bb rfl 24 xb.cells.toArray (0, 0) _ HB55.out Try.underlying24 rfl (HI5.out xb) ?_) | (refine unguard rfl ?_; refine wpList_load_row rfl 24 (.tmp 5) rfl Bc rfl 24 xc.cells.toArray (0, 0) _ HC55.out Try.underlying24 rfl (HI5.out xc) ?_))
      refine (first_any xa xb V55).mono ?_
      rintro r V56 ⟨rfl, hb56⟩
      rw [FQ.out]
      have B56 := Lib.hid (below_trans B55.out hb56 B55.out.size)
      have HA56 := Lib.hid (blk_below HA55.out hb56)
      have HB56 := Lib.hid (blk_below HB55.out hb56)
      have HC56 := Lib.hid (blk_below HC55.out hb56)
      clear hb56
      have ca1 : V56.cell? ⟨Ba, 1, none⟩ = some (.int .i64 x1) := by rw [X1.out]; exact at_item HA56.out 1 (by rw [Item.cells_length]; decide)
      have cb1 : V56.cell? ⟨Bb, 1, none⟩ = some (.int .i64 y1) := by rw [Y1.out]; exact at_item HB56.out 1 (by rw [Item.cells_length]; decide)
      have hd5 : decide (y1 ≤ x1) = true := decide_eq_true (by have := C1.out; omega)
      have hd6 : y1 ≤ x1 := by have := C1.out; omega
      go_wp2
      go_ret
      exact ⟨rfl, B56.out⟩
  · skip
    have FQ := Lib.hid (show first xa xb = false by rw [first_eq]; rw [if_neg (by omega)]; exact decide_eq_false (by omega))
    have FT := Lib.hid (show first xb xa = true by rw [first_eq]; rw [if_neg (by omega)]; exact decide_eq_true (by omega))
    have C1 := Lib.hid (show y1 ≤ x1 by rw [X1.out, Y1.out]; omega)
    have d1 : (x1 == y1) = false := by rw [X1.out, Y1.out]; simp; omega
    have D1 : decide (x1 = y1) = false := decide_eq_false (by rw [X1.out, Y1.out]; omega)
    clear HH
    have ca1 : W3.cell? ⟨Ba, 1, none⟩ = some (.int .i64 x1) := by rw [X1.out]; exact at_item HA3.out 1 (by rw [Item.cells_length]; decide)
    have ca2 : W3.cell? ⟨Ba, 2, none⟩ = some (.int .i64 x2) := by rw [X2.out]; exact at_item HA3.out 2 (by rw [Item.cells_length]; decide)
    have ca0 : W3.cell? ⟨Ba, 0, none⟩ = some (.int .i64 x3) := by rw [X3.out]; exact at_item HA3.out 0 (by rw [Item.cells_length]; decide)
    have cb1 : W3.cell? ⟨Bb, 1, none⟩ = some (.int .i64 y1) := by rw [Y1.out]; exact at_item HB3.out 1 (by rw [Item.cells_length]; decide)
    have cb2 : W3.cell? ⟨Bb, 2, none⟩ = some (.int .i64 y2) := by rw [Y2.out]; exact at_item HB3.out 2 (by rw [Item.cells_length]; decide)
    have cb0 : W3.cell? ⟨Bb, 0, none⟩ = some (.int .i64 y3) := by rw [Y3.out]; exact at_item HB3.out 0 (by rw [Item.cells_length]; decide)
    go_upto_region 3 with fail
    clear ca0 ca1 ca2 cb0 cb1 cb2 d1 D1
    go_wp2_with (first | (refine unguard rfl ?_; refine wpList_load_row rfl 24 (.tmp 3) rfl Ba rfl 24 xa.cells.toArray (0, 0) _ HA3.out Try.underlying24 rfl (HI5.out xa) ?_) | (refine unguard rfl ?_; refine wpList_load_row rfl 24 (.tmp 4) rfl Bb rfl 24 xb.cells.toArray (0, 0) _ HB3.out Try.underlying24 rfl (HI5.out xb) ?_) | (refine unguard rfl ?_; refine wpList_load_row rfl 24 (.tmp 5) rfl Bc rfl 24 xc.cells.toArray (0, 0) _ HC3.out Try.underlying24 rfl (HI5.out xc) ?_))
    refine (first_any xa xa W3).mono ?_
    rintro r V57 ⟨rfl, hb57⟩
    rw [FAA.out]
    have B57 := Lib.hid (below_trans B3.out hb57 B3.out.size)
    have HA57 := Lib.hid (blk_below HA3.out hb57)
    have HB57 := Lib.hid (blk_below HB3.out hb57)
    have HC57 := Lib.hid (blk_below HC3.out hb57)
    clear hb57
    go_wp2_with (first | (refine unguard rfl ?_; refine wpList_load_row rfl 24 (.tmp 3) rfl Ba rfl 24 xa.cells.toArray (0, 0) _ HA57.out Try.underlying24 rfl (HI5.out xa) ?_) | (refine unguard rfl ?_; refine wpList_load_row rfl 24 (.tmp 4) rfl Bb rfl 24 xb.cells.toArray (0, 0) _ HB57.out Try.underlying24 rfl (HI5.out xb) ?_) | (refine unguard rfl ?_; refine wpList_load_row rfl 24 (.tmp 5) rfl Bc rfl 24 xc.cells.toArray (0, 0) _ HC57.out Try.underlying24 rfl (HI5.out xc) ?_))
    refine (first_any xa xb V57).mono ?_
    rintro r V58 ⟨rfl, hb58⟩
    rw [FQ.out]
    have B58 := Lib.hid (below_trans B57.out hb58 B57.out.size)
    have HA58 := Lib.hid (blk_below HA57.out hb58)
    have HB58 := Lib.hid (blk_below HB57.out hb58)
    have HC58 := Lib.hid (blk_below HC57.out hb58)
    clear hb58
    go_wp2_with (first | (refine unguard rfl ?_; refine wpList_load_row rfl 24 (.tmp 3) rfl Ba rfl 24 xa.cells.toArray (0, 0) _ HA58.out Try.underlying24 rfl (HI5.out xa) ?_) | (refine unguard rfl ?_; refine wpList_load_row rfl 24 (.tmp 4) rfl Bb rfl 24 xb.cells.toArray (0, 0) _ HB58.out Try.underlying24 rfl (HI5.out xb) ?_) | (refine unguard rfl ?_; refine wpList_load_row rfl 24 (.tmp 5) rfl Bc rfl 24 xc.cells.toArray (0, 0) _ HC58.out Try.underlying24 rfl (HI5.out xc) ?_))
    refine (first_any xa xb V58).mono ?_
    rintro r V59 ⟨rfl, hb59⟩
    rw [FQ.out]
    have B59 := Lib.hid (below_trans B58.out hb59 B58.out.size)
    have HA59 := Lib.hid (blk_below HA58.out hb59)
    have HB59 := Lib.hid (blk_below HB58.out hb59)
    have HC59 := Lib.hid (blk_below HC58.out hb59)
    clear hb59
    go_wp2_with (first | (refine unguard rfl ?_; refine wpList_load_row rfl 24 (.tmp 3) rfl Ba rfl 24 xa.cells.toArray (0, 0) _ HA59.out Try.underlying24 rfl (HI5.out xa) ?_) | (refine unguard rfl ?_; refine wpList_load_row rfl 24 (.tmp 4) rfl Bb rfl 24 xb.cells.toArray (0, 0) _ HB59.out Try.underlying24 rfl (HI5.out xb) ?_) | (refine unguard rfl ?_; refine wpList_load_row rfl 24 (.tmp 5) rfl Bc rfl 24 xc.cells.toArray (0, 0) _ HC59.out Try.underlying24 rfl (HI5.out xc) ?_))
    refine (first_any xb xa V59).mono ?_
    rintro r V60 ⟨rfl, hb60⟩
    rw [FT.out]
    have B60 := Lib.hid (below_trans B59.out hb60 B59.out.size)
    have HA60 := Lib.hid (blk_below HA59.out hb60)
    have HB60 := Lib.hid (blk_below HB59.out hb60)
    have HC60 := Lib.hid (blk_below HC59.out hb60)
    clear hb60
    go_wp2_with (first | (refine unguard rfl ?_; refine wpList_load_row rfl 24 (.tmp 3) rfl Ba rfl 24 xa.cells.toArray (0, 0) _ HA60.out Try.underlying24 rfl (HI5.out xa) ?_) | (refine unguard rfl ?_; refine wpList_load_row rfl 24 (.tmp 4) rfl Bb rfl 24 xb.cells.toArray (0, 0) _ HB60.out Try.underlying24 rfl (HI5.out xb) ?_) | (refine unguard rfl ?_; refine wpList_load_row rfl 24 (.tmp 5) rfl Bc rfl 24 xc.cells.toArray (0, 0) _ HC60.out Try.underlying24 rfl (HI5.out xc) ?_))
    refine (first_any xa xb V60).mono ?_
    rintro r V61 ⟨rfl, hb61⟩
    rw [FQ.out]
    have B61 := Lib.hid (below_trans B60.out hb61 B60.out.size)
    have HA61 := Lib.hid (blk_below HA60.out hb61)
    have HB61 := Lib.hid (blk_below HB60.out hb61)
    have HC61 := Lib.hid (blk_below HC60.out hb61)
    clear hb61
    have ca1 : V61.cell? ⟨Ba, 1, none⟩ = some (.int .i64 x1) := by rw [X1.out]; exact at_item HA61.out 1 (by rw [Item.cells_length]; decide)
    have cb1 : V61.cell? ⟨Bb, 1, none⟩ = some (.int .i64 y1) := by rw [Y1.out]; exact at_item HB61.out 1 (by rw [Item.cells_length]; decide)
    have hd5 : decide (y1 ≤ x1) = true := decide_eq_true (by have := C1.out; omega)
    have hd6 : y1 ≤ x1 := by have := C1.out; omega
    go_wp2
    go_ret
    exact ⟨rfl, B61.out⟩
end Go.Proofs.Ytclfbjbbdfejkaa.Ord
