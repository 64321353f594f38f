/- QueryNarrows. -/
import Derived.Test.YtbfnjfmnblafaaaLawTells
import Derived.Test.YtbfnjfmnblafaaaOpen
import Derived.OpenShut
namespace Go.Proofs.Ytbfnjfmnblafaaa.Qry
open Go.RowKit

theorem tdiv2 (a : Int) : 2 * a.tdiv 2 ≤ a + 1 ∧ a - 1 ≤ 2 * a.tdiv 2 := by
  have h1 := Int.mul_tdiv_add_tmod a 2
  have h2 : -1 ≤ a.tmod 2 ∧ a.tmod 2 ≤ 1 := by
    have := Int.natAbs_tmod a 2
    rw [show (2 : Int).natAbs = 2 from rfl] at this
    omega
  omega
def askS (a : Ask) (s : ByteArray) : Ask := { a with serv := s }
def askC (a : Ask) (c : Int) : Ask := { a with serv := ⟨#[]⟩, cls := c }
def askF (a : Ask) (x : Int) : Ask := { a with from_ := x }
def askFT (a : Ask) (x y : Int) : Ask := { a with from_ := x, to_ := y }
/-- What the law's last line reads. -/
structure Nar (W : World) (Be Bb Bc Bd Bf Bg Bh : Nat) (e : Ent) (ak : Ask) (sv : ByteArray) (cl mo : Int) : Prop where
  be : W.heap[Be]? = some (.cells e.cells.toArray 29 (0, 0))
  bb : W.heap[Bb]? = some (.cells (askS ak ⟨#[]⟩).cells.toArray 31 (0, 0))
  bc : W.heap[Bc]? = some (.cells (askS ak sv).cells.toArray 31 (0, 0))
  bd : W.heap[Bd]? = some (.cells (askC ak (-1)).cells.toArray 31 (0, 0))
  bf : W.heap[Bf]? = some (.cells (askC ak cl).cells.toArray 31 (0, 0))
  bg : W.heap[Bg]? = some (.cells (askFT ak (ak.from_.tdiv 2 - mo) (ak.to_.tdiv 2 + mo)).cells.toArray 31 (0, 0))
  bh : W.heap[Bh]? = some (.cells (askFT ak (ak.from_.tdiv 2 - mo + mo / 2) (ak.to_.tdiv 2 + mo - mo / 2)).cells.toArray 31 (0, 0))
  r : SRd W e.sA e.sn e.sc e.ss
theorem Nar.below {W W1 : World} {Be Bb Bc Bd Bf Bg Bh : Nat} {e : Ent} {ak : Ask} {sv : ByteArray} {cl mo : Int} (h : Nar W Be Bb Bc Bd Bf Bg Bh e ak sv cl mo) (hb : Below W.heap.size W W1) : Nar W1 Be Bb Bc Bd Bf Bg Bh e ak sv cl mo :=
  ⟨blk_below h.be hb, blk_below h.bb hb, blk_below h.bc hb, blk_below h.bd hb, blk_below h.bf hb, blk_below h.bg hb, blk_below h.bh hb, h.r.below hb⟩
theorem fits_and {e : Ent} {a : Ask} : fits e a = true ↔ (fits1 e a = true ∧ fits2 e a = true ∧ fits3 e a = true ∧ fits4 e a = true) := by
  unfold fits
  simp only [Bool.and_eq_true]
theorem narrow1 (e : Ent) (a : Ask) (s : ByteArray) (_ : (s.toList == []) = false) (h : fits e (askS a s) = true) : fits e (askS a ⟨#[]⟩) = true := by
  obtain ⟨_, h2, h3, h4⟩ := fits_and.1 h
  refine fits_and.2 ⟨?_, h2, h3, h4⟩
  unfold fits1
  rw [show (askS a ⟨#[]⟩).serv = ⟨#[]⟩ from rfl, t0]
  rfl
theorem narrow2 (e : Ent) (a : Ask) (c : Int) (h : fits e (askC a c) = true) : fits e (askC a (-1)) = true := by
  obtain ⟨h1, h2, _, h4⟩ := fits_and.1 h
  exact fits_and.2 ⟨h1, h2, rfl, h4⟩
theorem narrow3 (e : Ent) (a : Ask) (x y d : Int) (hd : 0 ≤ d) (h : fits e (askFT a (x + d) (y - d)) = true) : fits e (askFT a x y) = true := by
  obtain ⟨h1, h2, h3, h4⟩ := fits_and.1 h
  refine fits_and.2 ⟨h1, ?_, h3, h4⟩
  unfold fits2 at h2 ⊢
  rw [Bool.and_eq_true] at h2 ⊢
  have h5 : e.bfrom ≤ y - d := of_decide_eq_true h2.1
  have h6 : x + d ≤ e.bto := of_decide_eq_true h2.2
  exact ⟨decide_eq_true (show e.bfrom ≤ y by omega), decide_eq_true (show x ≤ e.bto by omega)⟩

set_option maxRecDepth 100000 in
set_option maxHeartbeats 16000000 in
theorem QueryNarrows_walk (e : Ent) (ak : Ask) (sv : ByteArray) (cl mo : Int) (w : World) (hR : SRd w e.sA e.sn e.sc e.ss) (hA : AskWf ak) (hc : (Lit.int .u8 cl).wf = true) (hm : (Lit.int .u8 mo).wf = true) :
    Calls Try.prog 6 #[.agg e.cells.toArray, .agg ak.cells.toArray, .string sv, .int .u8 cl, .int .u8 mo] w (SayB w true) := by
  obtain ⟨X, hX⟩ : ∃ X, X = e.cells.toArray := ⟨_, rfl⟩
  obtain ⟨Y, hY⟩ : ∃ Y, Y = ak.cells.toArray := ⟨_, rfl⟩
  rw [← hX, ← hY]
  have HX0 := Lib.hid hX
  have HY0 := Lib.hid hY
  have HR0 := Lib.hid hR
  have HWF := Lib.hid hA
  have hcb := bounds_u8 hc
  have hmb := bounds_u8 hm
  have HXi := Lib.hid (show (Try.prog.info? 29).map (·.size) = some X.size by rw [hX]; kernel_rfl)
  have HB0 := Lib.hid (Below.refl w.heap.size w)
  have HZI := Lib.hid (show (Try.prog.info? 31).map (·.size) = some 7 by kernel_rfl)
  have HO : Hid (∀ a : Ask, a.cells.toArray.all (·.oneCell') = true) := Lib.hid (fun a => by rw [List.all_toArray, List.all_eq_true]; exact ask_one _)
  clear hX hY hR hA hc hm
  go_enter Try.func6, Try.ntmps6
  go_upto_region 1 with (fail)
  obtain ⟨W2, hW2⟩ : ∃ W, W = (w.alloc (.cells X 29)).alloc (.cells Y 31) := ⟨_, rfl⟩
  rw [← hW2]
  have eW2 : Below w.heap.size w W2 := by rw [hW2]; exact ((Below.refl _ _).alloc (Nat.le_refl _) _).alloc (by simp) _
  obtain ⟨Be, hBe⟩ : ∃ b, b = w.heap.size := ⟨_, rfl⟩
  obtain ⟨Ba, hBa⟩ : ∃ b, b = w.heap.size + 1 := ⟨_, rfl⟩
  rw [← hBa, ← hBe]
  have HBe2 := Lib.hid (show W2.heap[Be]? = some (.cells X 29 (0, 0)) by rw [hW2, hBe]; exact heap_alloc2_old _ _ _)
  have HBa := Lib.hid (show W2.heap[Ba]? = some (.cells Y 31 (0, 0)) by rw [hW2, hBa]; exact heap_alloc2_new _ _ _)
  have BW2 := Lib.hid (below_trans HB0.out eW2 HB0.out.size)
  have HR2 := Lib.hid (HR0.out.below BW2.out)
  clear hW2 eW2 hBe hBa
  go_wp2_with fail
  refine (head_any W2).mono ?_
  rintro r W3 ⟨rfl, hb3⟩
  have HBe3 := Lib.hid (blk_below HBe2.out hb3)
  have HBa3 := Lib.hid (blk_below HBa.out hb3)
  have HR3 := Lib.hid (HR2.out.below hb3)
  have B3 := Lib.hid (below_trans BW2.out hb3 BW2.out.size)
  clear hb3
  have HENT : Hid (Ents (W3.alloc (.cells X 29)) (some ⟨W3.heap.size, 0, none⟩) 1 1 [e]) := Lib.hid (by rw [HX0.out]; exact ents1 W3 e HR3.out)
  go_wp2_with (first | (refine wpList_load_row rfl 29 (.tmp 5) rfl Be rfl 29 X (0, 0) _ HBe3.out Try.underlying29 rfl HXi.out ?_) | (refine wpList_build1 rfl 19 rfl e (by rw [← HX0.out]; rfl) ?_; rw [← HX0.out]))
  refine (great_any _ 1 1 [e] (W3.alloc (.cells X 29)) HENT.out).mono ?_
  rintro r w4 ⟨⟨t2, rfl, hf2⟩, rfl⟩
  clear hf2
  obtain ⟨W4, hW4⟩ : ∃ W, W = W3.alloc (.cells X 29) := ⟨_, rfl⟩
  rw [← hW4]
  have eW4 : Below W3.heap.size W3 W4 := by rw [hW4]; exact (Below.refl _ _).alloc (Nat.le_refl _) _
  obtain ⟨Bq, hBq⟩ : ∃ b, b = W3.heap.size := ⟨_, rfl⟩
  rw [← hBq]
  have HBq := Lib.hid (show W4.heap[Bq]? = some (.cells X 29 (0, 0)) by rw [hW4, hBq]; exact heap_alloc_new _ _)
  have BW4 := Lib.hid (below_trans B3.out eW4 B3.out.size)
  have HBe_W4 := Lib.hid (blk_below HBe3.out eW4)
  have HBa_W4 := Lib.hid (blk_below HBa3.out eW4)
  have HR4 := Lib.hid (HR3.out.below eW4)
  have B4 := BW4
  have hcs4 : W4.cell? ⟨Ba, 0, none⟩ = some (.string ak.serv) := by have h := HBa_W4.out; rw [HY0.out] at h; simp [World.cell?, h, Ask.cells]
  clear hW4 eW4 hBq HENT
  cases t2 with
  | true =>
    go_wp2
    go_ret
    exact ⟨rfl, BW4.out⟩
  | false =>
    by_cases h9 : 900 < (ak.serv.size : Int)
    · have hd9 : decide (900 < (ak.serv.size : Int)) = true := decide_eq_true h9
      go_wp2
      go_ret
      exact ⟨rfl, BW4.out⟩
    have hd9 : decide (900 < (ak.serv.size : Int)) = false := decide_eq_false h9
    by_cases h8 : 900 < (sv.size : Int)
    · have hd8 : decide (900 < (sv.size : Int)) = true := decide_eq_true h8
      go_wp2
      go_ret
      exact ⟨rfl, BW4.out⟩
    have hd8 : decide (900 < (sv.size : Int)) = false := decide_eq_false h8
    obtain ⟨t5, h5⟩ : ∃ t, (sv.toList == []) = t := ⟨_, rfl⟩
    have HT5 := Lib.hid h5
    cases t5 with
    | true =>
      go_wp2
      go_ret
      exact ⟨rfl, BW4.out⟩
    | false =>
    go_upto_region 4 with fail
    clear hcs4 hd9 hd8 h5
    rw [HY0.out] at HBa_W4
    rw [HX0.out] at HBe_W4
    go_upto_region 5 with (first | (refine wpList_load_row rfl 31 (.tmp 6) rfl Ba rfl 31 ak.cells.toArray (0, 0) _ HBa_W4.out Try.underlying31 rfl HZI.out ?_) | (refine wpList_store_row rfl 31 (.tmp 12) (.tmp 38) rfl W4.heap.size ak.cells.toArray rfl rfl 31 _ (heap_alloc_new _ _) HZI.out rfl (HO.out ak) ?_; rw [World.setRow_alloc_new]))
    obtain ⟨W5, hW5⟩ : ∃ W, W = W4.alloc (.cells ak.cells.toArray 31) := ⟨_, rfl⟩
    rw [← hW5]
    have eW5 : Below W4.heap.size W4 W5 := by rw [hW5]; exact (Below.refl _ _).alloc (Nat.le_refl _) _
    obtain ⟨Bb, hBb⟩ : ∃ b, b = W4.heap.size := ⟨_, rfl⟩
    rw [← hBb]
    have HBb_W5 := Lib.hid (show W5.heap[Bb]? = some (.cells ak.cells.toArray 31 (0, 0)) by rw [hW5, hBb]; exact heap_alloc_new _ _)
    have BW5 := Lib.hid (below_trans B4.out eW5 B4.out.size)
    have HBe_W5 := Lib.hid (blk_below HBe_W4.out eW5)
    have HBa_W5 := Lib.hid (blk_below HBa_W4.out eW5)
    have HLBb := Lib.hid (show W4.heap.size ≤ Bb by omega)
    have HWW5 := Lib.hid eW5
    clear hW5 eW5 hBb
    have hc0 : W5.cell? ⟨Bb, 0, none⟩ = some (.string ak.serv) := at_blk HBb_W5.out 0 (by rw [Ask.cells_length]; decide)
    have hf0 : W5.frozen? ⟨Bb, 0, none⟩ = false := frozen_of_row _ Bb 0 _ 31 HBb_W5.out
    go_upto_region 6 with fail
    obtain ⟨W6, hW6⟩ : ∃ W, W = W5.setCell ⟨Bb, 0, none⟩ (.string ⟨#[]⟩) := ⟨_, rfl⟩
    rw [← hW6]
    have HWW6 := Lib.hid (show Below W4.heap.size W4 W6 by rw [hW6]; exact HWW5.out.setCell (p := ⟨Bb, 0, none⟩) HLBb.out _)
    have HBb_W6 : Hid (W6.heap[Bb]? = some (.cells (askS ak ⟨#[]⟩).cells.toArray 31 (0, 0))) := Lib.hid (by rw [hW6]; exact heap_setCell_same _ Bb 0 _ 31 _ HBb_W5.out)
    clear hc0 hf0 hW6
    have HBe_W6 := Lib.hid (blk_below HBe_W4.out HWW6.out)
    have HBa_W6 := Lib.hid (blk_below HBa_W4.out HWW6.out)
    have BW6 := Lib.hid (below_trans B4.out HWW6.out B4.out.size)
    go_upto_region 7 with (first | (refine wpList_load_row rfl 31 (.tmp 12) rfl Bb rfl 31 (askS ak ⟨#[]⟩).cells.toArray (0, 0) _ HBb_W6.out Try.underlying31 rfl HZI.out ?_) | (refine wpList_store_row rfl 31 (.tmp 13) (.tmp 40) rfl W6.heap.size (askS ak ⟨#[]⟩).cells.toArray rfl rfl 31 _ (heap_alloc_new _ _) HZI.out rfl (HO.out (askS ak ⟨#[]⟩)) ?_; rw [World.setRow_alloc_new]))
    obtain ⟨W7, hW7⟩ : ∃ W, W = W6.alloc (.cells (askS ak ⟨#[]⟩).cells.toArray 31) := ⟨_, rfl⟩
    rw [← hW7]
    have eW7 : Below W6.heap.size W6 W7 := by rw [hW7]; exact (Below.refl _ _).alloc (Nat.le_refl _) _
    obtain ⟨Bc, hBc⟩ : ∃ b, b = W6.heap.size := ⟨_, rfl⟩
    rw [← hBc]
    have HBc_W7 := Lib.hid (show W7.heap[Bc]? = some (.cells (askS ak ⟨#[]⟩).cells.toArray 31 (0, 0)) by rw [hW7, hBc]; exact heap_alloc_new _ _)
    have BW7 := Lib.hid (below_trans BW6.out eW7 BW6.out.size)
    have HBe_W7 := Lib.hid (blk_below HBe_W6.out eW7)
    have HBa_W7 := Lib.hid (blk_below HBa_W6.out eW7)
    have HBb_W7 := Lib.hid (blk_below HBb_W6.out eW7)
    have HLBc := Lib.hid (show W6.heap.size ≤ Bc by omega)
    have HWW7 := Lib.hid eW7
    clear hW7 eW7 hBc
    have hc0 : W7.cell? ⟨Bc, 0, none⟩ = some (.string ⟨#[]⟩) := at_blk HBc_W7.out 0 (by rw [Ask.cells_length]; decide)
    have hf0 : W7.frozen? ⟨Bc, 0, none⟩ = false := frozen_of_row _ Bc 0 _ 31 HBc_W7.out
    go_upto_region 8 with fail
    obtain ⟨W8, hW8⟩ : ∃ W, W = W7.setCell ⟨Bc, 0, none⟩ (.string sv) := ⟨_, rfl⟩
    rw [← hW8]
    have HWW8 := Lib.hid (show Below W6.heap.size W6 W8 by rw [hW8]; exact HWW7.out.setCell (p := ⟨Bc, 0, none⟩) HLBc.out _)
    have HBc_W8 : Hid (W8.heap[Bc]? = some (.cells (askS ak sv).cells.toArray 31 (0, 0))) := Lib.hid (by rw [hW8]; exact heap_setCell_same _ Bc 0 _ 31 _ HBc_W7.out)
    clear hc0 hf0 hW8
    have HBe_W8 := Lib.hid (blk_below HBe_W6.out HWW8.out)
    have HBa_W8 := Lib.hid (blk_below HBa_W6.out HWW8.out)
    have HBb_W8 := Lib.hid (blk_below HBb_W6.out HWW8.out)
    have BW8 := Lib.hid (below_trans BW6.out HWW8.out BW6.out.size)
    go_upto_region 9 with (first | (refine wpList_load_row rfl 31 (.tmp 12) rfl Bb rfl 31 (askS ak ⟨#[]⟩).cells.toArray (0, 0) _ HBb_W8.out Try.underlying31 rfl HZI.out ?_) | (refine wpList_store_row rfl 31 (.tmp 14) (.tmp 43) rfl W8.heap.size (askS ak ⟨#[]⟩).cells.toArray rfl rfl 31 _ (heap_alloc_new _ _) HZI.out rfl (HO.out (askS ak ⟨#[]⟩)) ?_; rw [World.setRow_alloc_new]))
    obtain ⟨W9, hW9⟩ : ∃ W, W = W8.alloc (.cells (askS ak ⟨#[]⟩).cells.toArray 31) := ⟨_, rfl⟩
    rw [← hW9]
    have eW9 : Below W8.heap.size W8 W9 := by rw [hW9]; exact (Below.refl _ _).alloc (Nat.le_refl _) _
    obtain ⟨Bd, hBd⟩ : ∃ b, b = W8.heap.size := ⟨_, rfl⟩
    rw [← hBd]
    have HBd_W9 := Lib.hid (show W9.heap[Bd]? = some (.cells (askS ak ⟨#[]⟩).cells.toArray 31 (0, 0)) by rw [hW9, hBd]; exact heap_alloc_new _ _)
    have BW9 := Lib.hid (below_trans BW8.out eW9 BW8.out.size)
    have HBe_W9 := Lib.hid (blk_below HBe_W8.out eW9)
    have HBa_W9 := Lib.hid (blk_below HBa_W8.out eW9)
    have HBb_W9 := Lib.hid (blk_below HBb_W8.out eW9)
    have HBc_W9 := Lib.hid (blk_below HBc_W8.out eW9)
    have HLBd := Lib.hid (show W8.heap.size ≤ Bd by omega)
    have HWW9 := Lib.hid eW9
    clear hW9 eW9 hBd
    have hc0 : W9.cell? ⟨Bd, 3, none⟩ = some (.int .i64 ak.cls) := at_blk HBd_W9.out 3 (by rw [Ask.cells_length]; decide)
    have hf0 : W9.frozen? ⟨Bd, 3, none⟩ = false := frozen_of_row _ Bd 3 _ 31 HBd_W9.out
    go_upto_region 10 with fail
    obtain ⟨W10, hW10⟩ : ∃ W, W = W9.setCell ⟨Bd, 3, none⟩ (.int .i64 (-1)) := ⟨_, rfl⟩
    rw [← hW10]
    have HWW10 := Lib.hid (show Below W8.heap.size W8 W10 by rw [hW10]; exact HWW9.out.setCell (p := ⟨Bd, 3, none⟩) HLBd.out _)
    have HBd_W10 : Hid (W10.heap[Bd]? = some (.cells (askC ak (-1)).cells.toArray 31 (0, 0))) := Lib.hid (by rw [hW10]; exact heap_setCell_same _ Bd 3 _ 31 _ HBd_W9.out)
    clear hc0 hf0 hW10
    have HBe_W10 := Lib.hid (blk_below HBe_W8.out HWW10.out)
    have HBa_W10 := Lib.hid (blk_below HBa_W8.out HWW10.out)
    have HBb_W10 := Lib.hid (blk_below HBb_W8.out HWW10.out)
    have HBc_W10 := Lib.hid (blk_below HBc_W8.out HWW10.out)
    have BW10 := Lib.hid (below_trans BW8.out HWW10.out BW8.out.size)
    go_upto_region 11 with (first | (refine wpList_load_row rfl 31 (.tmp 14) rfl Bd rfl 31 (askC ak (-1)).cells.toArray (0, 0) _ HBd_W10.out Try.underlying31 rfl HZI.out ?_) | (refine wpList_store_row rfl 31 (.tmp 15) (.tmp 45) rfl W10.heap.size (askC ak (-1)).cells.toArray rfl rfl 31 _ (heap_alloc_new _ _) HZI.out rfl (HO.out (askC ak (-1))) ?_; rw [World.setRow_alloc_new]))
    obtain ⟨W11, hW11⟩ : ∃ W, W = W10.alloc (.cells (askC ak (-1)).cells.toArray 31) := ⟨_, rfl⟩
    rw [← hW11]
    have eW11 : Below W10.heap.size W10 W11 := by rw [hW11]; exact (Below.refl _ _).alloc (Nat.le_refl _) _
    obtain ⟨Bf, hBf⟩ : ∃ b, b = W10.heap.size := ⟨_, rfl⟩
    rw [← hBf]
    have HBf_W11 := Lib.hid (show W11.heap[Bf]? = some (.cells (askC ak (-1)).cells.toArray 31 (0, 0)) by rw [hW11, hBf]; exact heap_alloc_new _ _)
    have BW11 := Lib.hid (below_trans BW10.out eW11 BW10.out.size)
    have HBe_W11 := Lib.hid (blk_below HBe_W10.out eW11)
    have HBa_W11 := Lib.hid (blk_below HBa_W10.out eW11)
    have HBb_W11 := Lib.hid (blk_below HBb_W10.out eW11)
    have HBc_W11 := Lib.hid (blk_below HBc_W10.out eW11)
    have HBd_W11 := Lib.hid (blk_below HBd_W10.out eW11)
    have HLBf := Lib.hid (show W10.heap.size ≤ Bf by omega)
    have HWW11 := Lib.hid eW11
    clear hW11 eW11 hBf
    have hc0 : W11.cell? ⟨Bf, 3, none⟩ = some (.int .i64 (-1)) := at_blk HBf_W11.out 3 (by rw [Ask.cells_length]; decide)
    have hf0 : W11.frozen? ⟨Bf, 3, none⟩ = false := frozen_of_row _ Bf 3 _ 31 HBf_W11.out
    go_upto_region 12 with fail
    obtain ⟨W12, hW12⟩ : ∃ W, W = W11.setCell ⟨Bf, 3, none⟩ (.int .i64 cl) := ⟨_, rfl⟩
    rw [← hW12]
    have HWW12 := Lib.hid (show Below W10.heap.size W10 W12 by rw [hW12]; exact HWW11.out.setCell (p := ⟨Bf, 3, none⟩) HLBf.out _)
    have HBf_W12 : Hid (W12.heap[Bf]? = some (.cells (askC ak cl).cells.toArray 31 (0, 0))) := Lib.hid (by rw [hW12]; exact heap_setCell_same _ Bf 3 _ 31 _ HBf_W11.out)
    clear hc0 hf0 hW12
    have HBe_W12 := Lib.hid (blk_below HBe_W10.out HWW12.out)
    have HBa_W12 := Lib.hid (blk_below HBa_W10.out HWW12.out)
    have HBb_W12 := Lib.hid (blk_below HBb_W10.out HWW12.out)
    have HBc_W12 := Lib.hid (blk_below HBc_W10.out HWW12.out)
    have HBd_W12 := Lib.hid (blk_below HBd_W10.out HWW12.out)
    have BW12 := Lib.hid (below_trans BW10.out HWW12.out BW10.out.size)
    go_upto_region 13 with (first | (refine wpList_load_row rfl 31 (.tmp 6) rfl Ba rfl 31 ak.cells.toArray (0, 0) _ HBa_W12.out Try.underlying31 rfl HZI.out ?_) | (refine wpList_store_row rfl 31 (.tmp 16) (.tmp 49) rfl W12.heap.size ak.cells.toArray rfl rfl 31 _ (heap_alloc_new _ _) HZI.out rfl (HO.out ak) ?_; rw [World.setRow_alloc_new]))
    obtain ⟨W13, hW13⟩ : ∃ W, W = W12.alloc (.cells ak.cells.toArray 31) := ⟨_, rfl⟩
    rw [← hW13]
    have eW13 : Below W12.heap.size W12 W13 := by rw [hW13]; exact (Below.refl _ _).alloc (Nat.le_refl _) _
    obtain ⟨Bg, hBg⟩ : ∃ b, b = W12.heap.size := ⟨_, rfl⟩
    rw [← hBg]
    have HBg_W13 := Lib.hid (show W13.heap[Bg]? = some (.cells ak.cells.toArray 31 (0, 0)) by rw [hW13, hBg]; exact heap_alloc_new _ _)
    have BW13 := Lib.hid (below_trans BW12.out eW13 BW12.out.size)
    have HBe_W13 := Lib.hid (blk_below HBe_W12.out eW13)
    have HBa_W13 := Lib.hid (blk_below HBa_W12.out eW13)
    have HBb_W13 := Lib.hid (blk_below HBb_W12.out eW13)
    have HBc_W13 := Lib.hid (blk_below HBc_W12.out eW13)
    have HBd_W13 := Lib.hid (blk_below HBd_W12.out eW13)
    have HBf_W13 := Lib.hid (blk_below HBf_W12.out eW13)
    have HLBg := Lib.hid (show W12.heap.size ≤ Bg by omega)
    have HWW13 := Lib.hid eW13
    clear hW13 eW13 hBg
    have hd1 : W13.cell? ⟨Ba, 1, none⟩ = some (.int .i64 ak.from_) := at_blk HBa_W13.out 1 (by rw [Ask.cells_length]; decide)
    have hw1 := bounds_i64 HWF.out.1
    have hw2 := bounds_i64 HWF.out.2.1
    have htd1 := tdiv2 ak.from_
    have htd2 := tdiv2 ak.to_
    have hxb : -4611686018427387905 ≤ ak.from_.tdiv 2 ∧ ak.from_.tdiv 2 ≤ 4611686018427387905 := by omega
    have hyb : -4611686018427387905 ≤ ak.to_.tdiv 2 ∧ ak.to_.tdiv 2 ≤ 4611686018427387905 := by omega
    clear htd1 htd2 hw1 hw2
    have hc0 : W13.cell? ⟨Bg, 1, none⟩ = some (.int .i64 ak.from_) := at_blk HBg_W13.out 1 (by rw [Ask.cells_length]; decide)
    have hf0 : W13.frozen? ⟨Bg, 1, none⟩ = false := frozen_of_row _ Bg 1 _ 31 HBg_W13.out
    go_upto_region 14 with fail
    obtain ⟨W14, hW14⟩ : ∃ W, W = W13.setCell ⟨Bg, 1, none⟩ (.int .i64 (ak.from_.tdiv 2 - mo)) := ⟨_, rfl⟩
    rw [← hW14]
    have HWW14 := Lib.hid (show Below W12.heap.size W12 W14 by rw [hW14]; exact HWW13.out.setCell (p := ⟨Bg, 1, none⟩) HLBg.out _)
    have HBg_W14 : Hid (W14.heap[Bg]? = some (.cells (askF ak (ak.from_.tdiv 2 - mo)).cells.toArray 31 (0, 0))) := Lib.hid (by rw [hW14]; exact heap_setCell_same _ Bg 1 _ 31 _ HBg_W13.out)
    clear hc0 hf0 hW14
    clear hd1
    have HBa_W14 := Lib.hid (blk_below HBa_W12.out HWW14.out)
    have hd1 : W14.cell? ⟨Ba, 2, none⟩ = some (.int .i64 ak.to_) := at_blk HBa_W14.out 2 (by rw [Ask.cells_length]; decide)
    have hc0 : W14.cell? ⟨Bg, 2, none⟩ = some (.int .i64 ak.to_) := at_blk HBg_W14.out 2 (by rw [Ask.cells_length]; decide)
    have hf0 : W14.frozen? ⟨Bg, 2, none⟩ = false := frozen_of_row _ Bg 2 _ 31 HBg_W14.out
    go_upto_region 15 with fail
    obtain ⟨W15, hW15⟩ : ∃ W, W = W14.setCell ⟨Bg, 2, none⟩ (.int .i64 (ak.to_.tdiv 2 + mo)) := ⟨_, rfl⟩
    rw [← hW15]
    have HWW15 := Lib.hid (show Below W12.heap.size W12 W15 by rw [hW15]; exact HWW14.out.setCell (p := ⟨Bg, 2, none⟩) HLBg.out _)
    have HBg_W15 : Hid (W15.heap[Bg]? = some (.cells (askFT ak (ak.from_.tdiv 2 - mo) (ak.to_.tdiv 2 + mo)).cells.toArray 31 (0, 0))) := Lib.hid (by rw [hW15]; exact heap_setCell_same _ Bg 2 _ 31 _ HBg_W14.out)
    clear hc0 hf0 hW15
    clear hd1
    have HBe_W15 := Lib.hid (blk_below HBe_W12.out HWW15.out)
    have HBa_W15 := Lib.hid (blk_below HBa_W12.out HWW15.out)
    have HBb_W15 := Lib.hid (blk_below HBb_W12.out HWW15.out)
    have HBc_W15 := Lib.hid (blk_below HBc_W12.out HWW15.out)
    have HBd_W15 := Lib.hid (blk_below HBd_W12.out HWW15.out)
    have HBf_W15 := Lib.hid (blk_below HBf_W12.out HWW15.out)
    have BW15 := Lib.hid (below_trans BW12.out HWW15.out BW12.out.size)
    go_upto_region 16 with (first | (refine wpList_load_row rfl 31 (.tmp 16) rfl Bg rfl 31 (askFT ak (ak.from_.tdiv 2 - mo) (ak.to_.tdiv 2 + mo)).cells.toArray (0, 0) _ HBg_W15.out Try.underlying31 rfl HZI.out ?_) | (refine wpList_store_row rfl 31 (.tmp 17) (.tmp 64) rfl W15.heap.size (askFT ak (ak.from_.tdiv 2 - mo) (ak.to_.tdiv 2 + mo)).cells.toArray rfl rfl 31 _ (heap_alloc_new _ _) HZI.out rfl (HO.out (askFT ak (ak.from_.tdiv 2 - mo) (ak.to_.tdiv 2 + mo))) ?_; rw [World.setRow_alloc_new]))
    obtain ⟨W16, hW16⟩ : ∃ W, W = W15.alloc (.cells (askFT ak (ak.from_.tdiv 2 - mo) (ak.to_.tdiv 2 + mo)).cells.toArray 31) := ⟨_, rfl⟩
    rw [← hW16]
    have eW16 : Below W15.heap.size W15 W16 := by rw [hW16]; exact (Below.refl _ _).alloc (Nat.le_refl _) _
    obtain ⟨Bh, hBh⟩ : ∃ b, b = W15.heap.size := ⟨_, rfl⟩
    rw [← hBh]
    have HBh_W16 := Lib.hid (show W16.heap[Bh]? = some (.cells (askFT ak (ak.from_.tdiv 2 - mo) (ak.to_.tdiv 2 + mo)).cells.toArray 31 (0, 0)) by rw [hW16, hBh]; exact heap_alloc_new _ _)
    have BW16 := Lib.hid (below_trans BW15.out eW16 BW15.out.size)
    have HBe_W16 := Lib.hid (blk_below HBe_W15.out eW16)
    have HBa_W16 := Lib.hid (blk_below HBa_W15.out eW16)
    have HBb_W16 := Lib.hid (blk_below HBb_W15.out eW16)
    have HBc_W16 := Lib.hid (blk_below HBc_W15.out eW16)
    have HBd_W16 := Lib.hid (blk_below HBd_W15.out eW16)
    have HBf_W16 := Lib.hid (blk_below HBf_W15.out eW16)
    have HBg_W16 := Lib.hid (blk_below HBg_W15.out eW16)
    have HLBh := Lib.hid (show W15.heap.size ≤ Bh by omega)
    have HWW16 := Lib.hid eW16
    clear hW16 eW16 hBh
    have hd1 : W16.cell? ⟨Bg, 1, none⟩ = some (.int .i64 (ak.from_.tdiv 2 - mo)) := at_blk HBg_W16.out 1 (by rw [Ask.cells_length]; decide)
    have hc0 : W16.cell? ⟨Bh, 1, none⟩ = some (.int .i64 (ak.from_.tdiv 2 - mo)) := at_blk HBh_W16.out 1 (by rw [Ask.cells_length]; decide)
    have hf0 : W16.frozen? ⟨Bh, 1, none⟩ = false := frozen_of_row _ Bh 1 _ 31 HBh_W16.out
    go_upto_region 17 with fail
    obtain ⟨W17, hW17⟩ : ∃ W, W = W16.setCell ⟨Bh, 1, none⟩ (.int .i64 ((ak.from_.tdiv 2 - mo) + mo / 2)) := ⟨_, rfl⟩
    rw [← hW17]
    have HWW17 := Lib.hid (show Below W15.heap.size W15 W17 by rw [hW17]; exact HWW16.out.setCell (p := ⟨Bh, 1, none⟩) HLBh.out _)
    have HBh_W17 : Hid (W17.heap[Bh]? = some (.cells (askFT ak ((ak.from_.tdiv 2 - mo) + mo / 2) (ak.to_.tdiv 2 + mo)).cells.toArray 31 (0, 0))) := Lib.hid (by rw [hW17]; exact heap_setCell_same _ Bh 1 _ 31 _ HBh_W16.out)
    clear hc0 hf0 hW17
    clear hd1
    have HBg_W17 := Lib.hid (blk_below HBg_W15.out HWW17.out)
    have hd1 : W17.cell? ⟨Bg, 2, none⟩ = some (.int .i64 (ak.to_.tdiv 2 + mo)) := at_blk HBg_W17.out 2 (by rw [Ask.cells_length]; decide)
    have hc0 : W17.cell? ⟨Bh, 2, none⟩ = some (.int .i64 (ak.to_.tdiv 2 + mo)) := at_blk HBh_W17.out 2 (by rw [Ask.cells_length]; decide)
    have hf0 : W17.frozen? ⟨Bh, 2, none⟩ = false := frozen_of_row _ Bh 2 _ 31 HBh_W17.out
    go_upto_region 18 with fail
    obtain ⟨W18, hW18⟩ : ∃ W, W = W17.setCell ⟨Bh, 2, none⟩ (.int .i64 ((ak.to_.tdiv 2 + mo) - mo / 2)) := ⟨_, rfl⟩
    rw [← hW18]
    have HWW18 := Lib.hid (show Below W15.heap.size W15 W18 by rw [hW18]; exact HWW17.out.setCell (p := ⟨Bh, 2, none⟩) HLBh.out _)
    have HBh_W18 : Hid (W18.heap[Bh]? = some (.cells (askFT ak ((ak.from_.tdiv 2 - mo) + mo / 2) ((ak.to_.tdiv 2 + mo) - mo / 2)).cells.toArray 31 (0, 0))) := Lib.hid (by rw [hW18]; exact heap_setCell_same _ Bh 2 _ 31 _ HBh_W17.out)
    clear hc0 hf0 hW18
    clear hd1
    have HBe_W18 := Lib.hid (blk_below HBe_W15.out HWW18.out)
    have HBa_W18 := Lib.hid (blk_below HBa_W15.out HWW18.out)
    have HBb_W18 := Lib.hid (blk_below HBb_W15.out HWW18.out)
    have HBc_W18 := Lib.hid (blk_below HBc_W15.out HWW18.out)
    have HBd_W18 := Lib.hid (blk_below HBd_W15.out HWW18.out)
    have HBf_W18 := Lib.hid (blk_below HBf_W15.out HWW18.out)
    have HBg_W18 := Lib.hid (blk_below HBg_W15.out HWW18.out)
    have BW18 := Lib.hid (below_trans BW15.out HWW18.out BW15.out.size)
    have N1 := Lib.hid (narrow1 e ak sv HT5.out)
    have N2 := Lib.hid (narrow2 e ak cl)
    have N3 := Lib.hid (narrow3 e ak (ak.from_.tdiv 2 - mo) (ak.to_.tdiv 2 + mo) (mo / 2) (by omega))
    have HR := Lib.hid (HR0.out.below BW18.out)
    clear hxb hyb hcb hmb h9 h8
    have NB0 : Hid (Nar W18 Be Bb Bc Bd Bf Bg Bh e ak sv cl mo) := Lib.hid ⟨HBe_W18.out, HBb_W18.out, HBc_W18.out, HBd_W18.out, HBf_W18.out, HBg_W18.out, HBh_W18.out, HR.out⟩
    have HEI := Lib.hid (show (Try.prog.info? 29).map (·.size) = some e.cells.toArray.size by kernel_rfl)
    obtain ⟨F1, hf1⟩ : ∃ b, b = fits e (askS ak sv) := ⟨_, rfl⟩
    obtain ⟨F3, hf3⟩ : ∃ b, b = fits e (askC ak cl) := ⟨_, rfl⟩
    obtain ⟨F5, hf5⟩ : ∃ b, b = fits e (askFT ak ((ak.from_.tdiv 2 - mo) + mo / 2) ((ak.to_.tdiv 2 + mo) - mo / 2)) := ⟨_, rfl⟩
    have HF1 := Lib.hid hf1
    have HF3 := Lib.hid hf3
    have HF5 := Lib.hid hf5
    clear hf1 hf3 hf5
    go_wp2_with (first | (refine unguard (o := ⟨some 81, _, _, _, _, _⟩) rfl ?_; refine wpList_load_row rfl 29 (.tmp 5) rfl Be rfl 29 e.cells.toArray (0, 0) _ NB0.out.be Try.underlying29 rfl HEI.out ?_) | (refine unguard (o := ⟨some 82, _, _, _, _, _⟩) rfl ?_; refine wpList_load_row rfl 31 (.tmp 13) rfl Bc rfl 31 (askS ak sv).cells.toArray (0, 0) _ NB0.out.bc Try.underlying31 rfl HZI.out ?_))
    refine (fits_any e (askS ak sv) W18 NB0.out.r).mono ?_
    rintro r V1 ⟨rfl, hb⟩
    have NB1 := Lib.hid (NB0.out.below hb)
    have BV1 := Lib.hid (below_trans BW18.out hb BW18.out.size)
    clear hb
    rw [← HF1.out]
    cases F1 with
    | false =>
      go_wp2_with (first | (refine unguard (o := ⟨some 92, _, _, _, _, _⟩) rfl ?_; refine wpList_load_row rfl 29 (.tmp 5) rfl Be rfl 29 e.cells.toArray (0, 0) _ NB1.out.be Try.underlying29 rfl HEI.out ?_) | (refine unguard (o := ⟨some 93, _, _, _, _, _⟩) rfl ?_; refine wpList_load_row rfl 31 (.tmp 15) rfl Bf rfl 31 (askC ak cl).cells.toArray (0, 0) _ NB1.out.bf Try.underlying31 rfl HZI.out ?_))
      refine (fits_any e (askC ak cl) V1 NB1.out.r).mono ?_
      rintro r V2 ⟨rfl, hb⟩
      have NB2 := Lib.hid (NB1.out.below hb)
      have BV2 := Lib.hid (below_trans BV1.out hb BV1.out.size)
      clear hb
      rw [← HF3.out]
      cases F3 with
      | false =>
        go_wp2_with (first | (refine unguard (o := ⟨some 103, _, _, _, _, _⟩) rfl ?_; refine wpList_load_row rfl 29 (.tmp 5) rfl Be rfl 29 e.cells.toArray (0, 0) _ NB2.out.be Try.underlying29 rfl HEI.out ?_) | (refine unguard (o := ⟨some 104, _, _, _, _, _⟩) rfl ?_; refine wpList_load_row rfl 31 (.tmp 17) rfl Bh rfl 31 (askFT ak ((ak.from_.tdiv 2 - mo) + mo / 2) ((ak.to_.tdiv 2 + mo) - mo / 2)).cells.toArray (0, 0) _ NB2.out.bh Try.underlying31 rfl HZI.out ?_))
        refine (fits_any e (askFT ak ((ak.from_.tdiv 2 - mo) + mo / 2) ((ak.to_.tdiv 2 + mo) - mo / 2)) V2 NB2.out.r).mono ?_
        rintro r V3 ⟨rfl, hb⟩
        have NB3 := Lib.hid (NB2.out.below hb)
        have BV3 := Lib.hid (below_trans BV2.out hb BV2.out.size)
        clear hb
        rw [← HF5.out]
        cases F5 with
        | false =>
          go_wp2
          go_ret
          exact ⟨rfl, BV3.out⟩
        | true =>
          go_wp2_with (first | (refine unguard (o := ⟨some 108, _, _, _, _, _⟩) rfl ?_; refine wpList_load_row rfl 29 (.tmp 5) rfl Be rfl 29 e.cells.toArray (0, 0) _ NB3.out.be Try.underlying29 rfl HEI.out ?_) | (refine unguard (o := ⟨some 109, _, _, _, _, _⟩) rfl ?_; refine wpList_load_row rfl 31 (.tmp 16) rfl Bg rfl 31 (askFT ak (ak.from_.tdiv 2 - mo) (ak.to_.tdiv 2 + mo)).cells.toArray (0, 0) _ NB3.out.bg Try.underlying31 rfl HZI.out ?_))
          refine (fits_any e (askFT ak (ak.from_.tdiv 2 - mo) (ak.to_.tdiv 2 + mo)) V3 NB3.out.r).mono ?_
          rintro r V4 ⟨rfl, hb⟩
          have NB4 := Lib.hid (NB3.out.below hb)
          have BV4 := Lib.hid (below_trans BV3.out hb BV3.out.size)
          rw [N3.out HF5.out.symm]
          clear hb
          go_wp2
          go_ret
          exact ⟨rfl, BV4.out⟩
      | true =>
        go_wp2_with (first | (refine unguard (o := ⟨some 97, _, _, _, _, _⟩) rfl ?_; refine wpList_load_row rfl 29 (.tmp 5) rfl Be rfl 29 e.cells.toArray (0, 0) _ NB2.out.be Try.underlying29 rfl HEI.out ?_) | (refine unguard (o := ⟨some 98, _, _, _, _, _⟩) rfl ?_; refine wpList_load_row rfl 31 (.tmp 14) rfl Bd rfl 31 (askC ak (-1)).cells.toArray (0, 0) _ NB2.out.bd Try.underlying31 rfl HZI.out ?_))
        refine (fits_any e (askC ak (-1)) V2 NB2.out.r).mono ?_
        rintro r V5 ⟨rfl, hb⟩
        have NB5 := Lib.hid (NB2.out.below hb)
        have BV5 := Lib.hid (below_trans BV2.out hb BV2.out.size)
        rw [N2.out HF3.out.symm]
        clear hb
        go_wp2_with (first | (refine unguard (o := ⟨some 103, _, _, _, _, _⟩) rfl ?_; refine wpList_load_row rfl 29 (.tmp 5) rfl Be rfl 29 e.cells.toArray (0, 0) _ NB5.out.be Try.underlying29 rfl HEI.out ?_) | (refine unguard (o := ⟨some 104, _, _, _, _, _⟩) rfl ?_; refine wpList_load_row rfl 31 (.tmp 17) rfl Bh rfl 31 (askFT ak ((ak.from_.tdiv 2 - mo) + mo / 2) ((ak.to_.tdiv 2 + mo) - mo / 2)).cells.toArray (0, 0) _ NB5.out.bh Try.underlying31 rfl HZI.out ?_))
        refine (fits_any e (askFT ak ((ak.from_.tdiv 2 - mo) + mo / 2) ((ak.to_.tdiv 2 + mo) - mo / 2)) V5 NB5.out.r).mono ?_
        rintro r V6 ⟨rfl, hb⟩
        have NB6 := Lib.hid (NB5.out.below hb)
        have BV6 := Lib.hid (below_trans BV5.out hb BV5.out.size)
        clear hb
        rw [← HF5.out]
        cases F5 with
        | false =>
          go_wp2
          go_ret
          exact ⟨rfl, BV6.out⟩
        | true =>
          go_wp2_with (first | (refine unguard (o := ⟨some 108, _, _, _, _, _⟩) rfl ?_; refine wpList_load_row rfl 29 (.tmp 5) rfl Be rfl 29 e.cells.toArray (0, 0) _ NB6.out.be Try.underlying29 rfl HEI.out ?_) | (refine unguard (o := ⟨some 109, _, _, _, _, _⟩) rfl ?_; refine wpList_load_row rfl 31 (.tmp 16) rfl Bg rfl 31 (askFT ak (ak.from_.tdiv 2 - mo) (ak.to_.tdiv 2 + mo)).cells.toArray (0, 0) _ NB6.out.bg Try.underlying31 rfl HZI.out ?_))
          refine (fits_any e (askFT ak (ak.from_.tdiv 2 - mo) (ak.to_.tdiv 2 + mo)) V6 NB6.out.r).mono ?_
          rintro r V7 ⟨rfl, hb⟩
          have NB7 := Lib.hid (NB6.out.below hb)
          have BV7 := Lib.hid (below_trans BV6.out hb BV6.out.size)
          rw [N3.out HF5.out.symm]
          clear hb
          go_wp2
          go_ret
          exact ⟨rfl, BV7.out⟩
    | true =>
      go_wp2_with (first | (refine unguard (o := ⟨some 86, _, _, _, _, _⟩) rfl ?_; refine wpList_load_row rfl 29 (.tmp 5) rfl Be rfl 29 e.cells.toArray (0, 0) _ NB1.out.be Try.underlying29 rfl HEI.out ?_) | (refine unguard (o := ⟨some 87, _, _, _, _, _⟩) rfl ?_; refine wpList_load_row rfl 31 (.tmp 12) rfl Bb rfl 31 (askS ak ⟨#[]⟩).cells.toArray (0, 0) _ NB1.out.bb Try.underlying31 rfl HZI.out ?_))
      refine (fits_any e (askS ak ⟨#[]⟩) V1 NB1.out.r).mono ?_
      rintro r V8 ⟨rfl, hb⟩
      have NB8 := Lib.hid (NB1.out.below hb)
      have BV8 := Lib.hid (below_trans BV1.out hb BV1.out.size)
      rw [N1.out HF1.out.symm]
      clear hb
      go_wp2_with (first | (refine unguard (o := ⟨some 92, _, _, _, _, _⟩) rfl ?_; refine wpList_load_row rfl 29 (.tmp 5) rfl Be rfl 29 e.cells.toArray (0, 0) _ NB8.out.be Try.underlying29 rfl HEI.out ?_) | (refine unguard (o := ⟨some 93, _, _, _, _, _⟩) rfl ?_; refine wpList_load_row rfl 31 (.tmp 15) rfl Bf rfl 31 (askC ak cl).cells.toArray (0, 0) _ NB8.out.bf Try.underlying31 rfl HZI.out ?_))
      refine (fits_any e (askC ak cl) V8 NB8.out.r).mono ?_
      rintro r V9 ⟨rfl, hb⟩
      have NB9 := Lib.hid (NB8.out.below hb)
      have BV9 := Lib.hid (below_trans BV8.out hb BV8.out.size)
      clear hb
      rw [← HF3.out]
      cases F3 with
      | false =>
        go_wp2_with (first | (refine unguard (o := ⟨some 103, _, _, _, _, _⟩) rfl ?_; refine wpList_load_row rfl 29 (.tmp 5) rfl Be rfl 29 e.cells.toArray (0, 0) _ NB9.out.be Try.underlying29 rfl HEI.out ?_) | (refine unguard (o := ⟨some 104, _, _, _, _, _⟩) rfl ?_; refine wpList_load_row rfl 31 (.tmp 17) rfl Bh rfl 31 (askFT ak ((ak.from_.tdiv 2 - mo) + mo / 2) ((ak.to_.tdiv 2 + mo) - mo / 2)).cells.toArray (0, 0) _ NB9.out.bh Try.underlying31 rfl HZI.out ?_))
        refine (fits_any e (askFT ak ((ak.from_.tdiv 2 - mo) + mo / 2) ((ak.to_.tdiv 2 + mo) - mo / 2)) V9 NB9.out.r).mono ?_
        rintro r V10 ⟨rfl, hb⟩
        have NB10 := Lib.hid (NB9.out.below hb)
        have BV10 := Lib.hid (below_trans BV9.out hb BV9.out.size)
        clear hb
        rw [← HF5.out]
        cases F5 with
        | false =>
          go_wp2
          go_ret
          exact ⟨rfl, BV10.out⟩
        | true =>
          go_wp2_with (first | (refine unguard (o := ⟨some 108, _, _, _, _, _⟩) rfl ?_; refine wpList_load_row rfl 29 (.tmp 5) rfl Be rfl 29 e.cells.toArray (0, 0) _ NB10.out.be Try.underlying29 rfl HEI.out ?_) | (refine unguard (o := ⟨some 109, _, _, _, _, _⟩) rfl ?_; refine wpList_load_row rfl 31 (.tmp 16) rfl Bg rfl 31 (askFT ak (ak.from_.tdiv 2 - mo) (ak.to_.tdiv 2 + mo)).cells.toArray (0, 0) _ NB10.out.bg Try.underlying31 rfl HZI.out ?_))
          refine (fits_any e (askFT ak (ak.from_.tdiv 2 - mo) (ak.to_.tdiv 2 + mo)) V10 NB10.out.r).mono ?_
          rintro r V11 ⟨rfl, hb⟩
          have NB11 := Lib.hid (NB10.out.below hb)
          have BV11 := Lib.hid (below_trans BV10.out hb BV10.out.size)
          rw [N3.out HF5.out.symm]
          clear hb
          go_wp2
          go_ret
          exact ⟨rfl, BV11.out⟩
      | true =>
        go_wp2_with (first | (refine unguard (o := ⟨some 97, _, _, _, _, _⟩) rfl ?_; refine wpList_load_row rfl 29 (.tmp 5) rfl Be rfl 29 e.cells.toArray (0, 0) _ NB9.out.be Try.underlying29 rfl HEI.out ?_) | (refine unguard (o := ⟨some 98, _, _, _, _, _⟩) rfl ?_; refine wpList_load_row rfl 31 (.tmp 14) rfl Bd rfl 31 (askC ak (-1)).cells.toArray (0, 0) _ NB9.out.bd Try.underlying31 rfl HZI.out ?_))
        refine (fits_any e (askC ak (-1)) V9 NB9.out.r).mono ?_
        rintro r V12 ⟨rfl, hb⟩
        have NB12 := Lib.hid (NB9.out.below hb)
        have BV12 := Lib.hid (below_trans BV9.out hb BV9.out.size)
        rw [N2.out HF3.out.symm]
        clear hb
        go_wp2_with (first | (refine unguard (o := ⟨some 103, _, _, _, _, _⟩) rfl ?_; refine wpList_load_row rfl 29 (.tmp 5) rfl Be rfl 29 e.cells.toArray (0, 0) _ NB12.out.be Try.underlying29 rfl HEI.out ?_) | (refine unguard (o := ⟨some 104, _, _, _, _, _⟩) rfl ?_; refine wpList_load_row rfl 31 (.tmp 17) rfl Bh rfl 31 (askFT ak ((ak.from_.tdiv 2 - mo) + mo / 2) ((ak.to_.tdiv 2 + mo) - mo / 2)).cells.toArray (0, 0) _ NB12.out.bh Try.underlying31 rfl HZI.out ?_))
        refine (fits_any e (askFT ak ((ak.from_.tdiv 2 - mo) + mo / 2) ((ak.to_.tdiv 2 + mo) - mo / 2)) V12 NB12.out.r).mono ?_
        rintro r V13 ⟨rfl, hb⟩
        have NB13 := Lib.hid (NB12.out.below hb)
        have BV13 := Lib.hid (below_trans BV12.out hb BV12.out.size)
        clear hb
        rw [← HF5.out]
        cases F5 with
        | false =>
          go_wp2
          go_ret
          exact ⟨rfl, BV13.out⟩
        | true =>
          go_wp2_with (first | (refine unguard (o := ⟨some 108, _, _, _, _, _⟩) rfl ?_; refine wpList_load_row rfl 29 (.tmp 5) rfl Be rfl 29 e.cells.toArray (0, 0) _ NB13.out.be Try.underlying29 rfl HEI.out ?_) | (refine unguard (o := ⟨some 109, _, _, _, _, _⟩) rfl ?_; refine wpList_load_row rfl 31 (.tmp 16) rfl Bg rfl 31 (askFT ak (ak.from_.tdiv 2 - mo) (ak.to_.tdiv 2 + mo)).cells.toArray (0, 0) _ NB13.out.bg Try.underlying31 rfl HZI.out ?_))
          refine (fits_any e (askFT ak (ak.from_.tdiv 2 - mo) (ak.to_.tdiv 2 + mo)) V13 NB13.out.r).mono ?_
          rintro r V14 ⟨rfl, hb⟩
          have NB14 := Lib.hid (NB13.out.below hb)
          have BV14 := Lib.hid (below_trans BV13.out hb BV13.out.size)
          rw [N3.out HF5.out.symm]
          clear hb
          go_wp2
          go_ret
          exact ⟨rfl, BV14.out⟩
end Go.Proofs.Ytbfnjfmnblafaaa.Qry
