/- What stays is deleted: DeleteFunc. -/
import Derived.Test.YtclfbjbbdfejkaaOG
namespace Go.Proofs.Ytclfbjbbdfejkaa.Ord
open Go.RowKit

/-- What DeleteFunc hands back: the same row, what goes alone. -/
def DelPost (w : World) (base g c : Nat) (L : List Item) (e : Ending) (w' : World) : Prop := ∃ m, e = .returned (sl g m c) ∧ OwnI w' base (sl g m c) m (L.filter goes) ∧ w.grownBy w' (some g)
set_option maxRecDepth 100000 in
set_option maxHeartbeats 4000000 in
theorem delete_any (base g n c : Nat) (L : List Item) (w : World) (hO : OwnI w base (sl g n c) n L) :
    Calls Try.prog 29 #[sl g n c, fstays] w (DelPost w base g c L) := by
  obtain ⟨A0, c0, e0, hits, _⟩ := hO.its
  cases e0
  have HI := Lib.hid (index_any _ n c L w hits)
  have HO := Lib.hid hO
  have HL := Lib.hid hO.len
  have hsm := hO.small
  clear hO hits
  go_enter Try.func29, Try.ntmps29
  go_wp2_with fail
  refine HI.out.mono ?_
  rintro r w1 ⟨⟨v, rfl, hv⟩, hb1⟩
  have OW1 := Lib.hid (HO.out.below hb1)
  have GR1 := Lib.hid (below_grown' hb1 (some g))
  clear hb1
  rcases hv with ⟨rfl, hall⟩ | ⟨k0, rfl, hk0, hst, hall⟩
  · have HF := Lib.hid (filter_all hall)
    clear hall
    go_wp2
    go_ret
    exact ⟨n, rfl, by rw [HF.out]; exact OW1.out, GR1.out⟩
  · have hk0n : k0 < n := by rw [← HL.out]; exact hk0
    have HS0 : Hid ((L.take (k0 + 1)).filter goes = L.take k0) := Lib.hid (by rw [List.take_succ_eq_append_getElem hk0, filter_snoc, if_pos hst, filter_all hall])
    have hd1 : ((k0 : Int) == -1) = false := by rw [beq_eq_false_iff_ne]; omega
    have hd2 : decide ((k0 : Int) = -1) = false := decide_eq_false (by omega)
    clear hst hall hk0
    go_wp2
    go_loopw [5, 6] (fun u i wr => ∃ j k : Nat, ∃ M : List Item, u = .int .i64 j ∧ i = .int .i64 k ∧ k ≤ n ∧ j < k ∧ OwnI wr base (sl g n c) n M ∧ w.grownBy wr (some g) ∧ M.take j = (L.take k).filter goes ∧ M.drop k = L.drop k) (fun _ i _ => n - (intOf i).toNat)
    case atStart => exact ⟨k0, k0 + 1, L, rfl, by go_num, by omega, by omega, OW1.out, GR1.out, HS0.out.symm, rfl⟩
    case round =>
      obtain ⟨j, k, M, rfl, rfl, hk, hjk, hown, hgr, htk, hdr⟩ := hrel
      have OW := Lib.hid hown
      have ML := Lib.hid hown.len
      have GR := Lib.hid hgr
      have TK := Lib.hid htk
      have DR := Lib.hid hdr
      clear hown hgr htk hdr
      by_cases hlt : k < n
      · have hkn : (k : Int) < n := by omega
        have hjn : (j : Int) < n := by omega
        have hkL : k < L.length := by rw [HL.out]; exact hlt
        have hkM : k < M.length := by rw [ML.out]; exact hlt
        obtain ⟨x, hx⟩ : ∃ x, x = M[k] := ⟨_, rfl⟩
        have hat := OW.out.at hkM
        rw [← hx] at hat
        have HAT := Lib.hid hat
        have hxL : x = L[k] := by
          have h1 := congrArg (fun l : List Item => l[0]?) DR.out
          simp only [List.getElem?_drop, Nat.add_zero, List.getElem?_eq_getElem hkL, List.getElem?_eq_getElem hkM] at h1
          rw [hx]; exact Option.some.inj h1
        have HF : Hid ((L.take (k + 1)).filter goes = if stays x = true then M.take j else M.take j ++ [x]) := Lib.hid (by rw [List.take_succ_eq_append_getElem hkL, filter_snoc, ← hxL, TK.out])
        have HD : Hid (M.drop (k + 1) = L.drop (k + 1)) := Lib.hid (by
          have h1 := congrArg (fun l : List Item => l.drop 1) DR.out
          simpa [List.drop_drop] using h1)
        have HII := Lib.hid (item_info x)
        have HI5 := Lib.hid (show (Try.prog.info? 24).map (·.size) = some x.cells.toArray.size from item_info x)
        have HOC := Lib.hid (show x.cells.toArray.all (·.oneCell') = true by rw [List.all_toArray, List.all_eq_true]; exact item_one x)
        clear hat hx hxL
        go_upto_region 8 with (first | (refine wpList_load_mid rfl 24 (.tmp 24) rfl g (k * 5) rfl x.cells _ HAT.out.range Try.underlying24 rfl HII.out ?_) | (refine wpList_store_row rfl 24 (.tmp 7) (.tmp 25) rfl wr.heap.size x.cells.toArray rfl rfl 24 _ (heap_alloc_new _ _) HI5.out rfl HOC.out ?_; rw [World.setRow_alloc_new]))
        obtain ⟨W1, hW1⟩ : ∃ W, W = wr.alloc (.cells x.cells.toArray 24) := ⟨_, rfl⟩
        rw [← hW1]
        have e1 : Below wr.heap.size wr W1 := by rw [hW1]; exact (Below.refl _ _).alloc (Nat.le_refl _) _
        obtain ⟨q, hq⟩ : ∃ b, b = wr.heap.size := ⟨_, rfl⟩
        rw [← hq]
        have HB1 := Lib.hid (show W1.heap[q]? = some (.cells x.cells.toArray 24 (0, 0)) by rw [hW1, hq]; exact heap_alloc_new _ _)
        have OW2 := Lib.hid (OW.out.below e1)
        have GR2 := Lib.hid (grown_trans GR.out (below_grown' e1 (some g)))
        clear hW1 e1 hq
        go_wp2_with (refine wpList_load_row rfl 24 (.tmp 7) rfl q rfl 24 x.cells.toArray (0, 0) _ HB1.out Try.underlying24 rfl HI5.out ?_)
        refine (stays_any x W1).mono ?_
        rintro r W2 ⟨rfl, hb2⟩
        have HB2 := Lib.hid (blk_below HB1.out hb2)
        have OW3 := Lib.hid (OW2.out.below hb2)
        have GR3 := Lib.hid (grown_trans GR2.out (below_grown' hb2 (some g)))
        obtain ⟨z, hz⟩ : ∃ z, z = stays x := ⟨_, rfl⟩
        rw [← hz] at HF ⊢
        clear hb2 hz
        cases z with
        | true =>
          go_wp2
          go_roundw
          case rel => exact ⟨j, k + 1, M, rfl, by go_num, by omega, by omega, OW3.out, GR3.out, by rw [HF.out]; rfl, HD.out⟩
          case measure => simp [intOf]; omega
        | false =>
          have OW4 := Lib.hid (OW3.out.put (k := j) (by omega) x)
          have TH := Lib.hid (OW3.out.there (k := j) (by omega))
          have GR4 := Lib.hid (grown_trans GR3.out (grown_setCells W2 g (j * 5) x.cells))
          have HT : Hid ((M.set j x).take (j + 1) = M.take j ++ [x]) := Lib.hid (take_set (by omega) x)
          have HDS : Hid ((M.set j x).drop (k + 1) = M.drop (k + 1)) := Lib.hid (drop_set (by omega) x)
          go_upto_region 10 with (first | (refine wpList_load_row rfl 24 (.tmp 7) rfl q rfl 24 x.cells.toArray (0, 0) _ HB2.out Try.underlying24 rfl HI5.out ?_) | (refine wpList_store_mid rfl 24 (.tmp 33) (.tmp 32) rfl g (j * 5) x.cells.toArray rfl rfl TH.out (item_info x) (all_oneCell_toArray (item_one x)) ?_))
          obtain ⟨W5, hW5⟩ : ∃ W, W = W2.setCells g (j * 5) x.cells := ⟨_, rfl⟩
          show Code.wp _ _ _ _ (W2.setCells g (j * 5) x.cells)
          rw [← hW5] at OW4 GR4 ⊢
          clear hW5
          go_wp2
          go_roundw
          case rel => exact ⟨j + 1, k + 1, M.set j x, by go_num, by go_num, by omega, by omega, OW4.out, GR4.out, by rw [HF.out, HT.out]; rfl, by rw [HDS.out]; exact HD.out⟩
          case measure => simp [intOf]; omega
      · have hkn : ¬ (k : Int) < n := by omega
        have hjn : j < n := by omega
        have hjn2 : (j : Int) ≤ n := by omega
        have htk : L.take k = L := List.take_of_length_le (by rw [HL.out]; omega)
        rw [htk] at TK
        have TH : Hid (wr.there g (j * 5) ((n - j) * 5)) := Lib.hid (by
          intro i hi
          have h1 := OW.out.there (k := j + i / 5) (by omega) (i % 5) (by omega)
          rwa [show (j + i / 5) * 5 + i % 5 = j * 5 + i by omega] at h1)
        have OWF := Lib.hid (OW.out.head (j := j) (by omega) (Builtin.zeroCells zeroE.cells (n - j)).toList (by simp [Builtin.zeroCells, zeroE, Value.cells]; omega))
        have GRF := Lib.hid (grown_trans GR.out (grown_setCells wr g (j * 5) (Builtin.zeroCells zeroE.cells (n - j)).toList))
        clear htk
        go_upto_region 12 with (refine wpList_clear_items rfl (.tmp 38) rfl g (j * 5) (n - j) (c - j) ?_ (by omega) TH.out ?_)
        obtain ⟨W9, hW9⟩ : ∃ W, W = wr.setCells g (j * 5) (Builtin.zeroCells zeroE.cells (n - j)).toList := ⟨_, rfl⟩
        rw [← hW9] at OWF GRF ⊢
        clear hW9
        go_wp2
        go_ret
        exact ⟨j, rfl, by rw [← TK.out]; exact OWF.out, GRF.out⟩
theorem delete_nil (w : World) : Calls Try.prog 29 #[.slice none 0 0, fstays] w fun e w' => e = .returned (.slice none 0 0) ∧ Below w.heap.size w w' := by
  have HI := Lib.hid (index_any none 0 0 [] w ⟨rfl, Nat.le_refl _, by omega, fun _ => rfl, fun _ e _ => by cases e⟩)
  go_enter Try.func29, Try.ntmps29
  go_wp2_with fail
  refine HI.out.mono ?_
  rintro r w1 ⟨⟨v, rfl, hv⟩, hb1⟩
  have B1 := Lib.hid hb1
  clear hb1
  rcases hv with ⟨rfl, hall⟩ | ⟨k0, rfl, hk0, hst, hall⟩
  · clear hall
    go_wp2
    go_ret
    exact ⟨rfl, B1.out⟩
  · exact absurd hk0 (by simp)
end Go.Proofs.Ytclfbjbbdfejkaa.Ord
