/- QueryPages. -/
import Derived.Test.YtbfnjfmnblafaaaLawBehind
namespace Go.Proofs.Ytbfnjfmnblafaaa.Qry
open Go.RowKit

theorem own_below2 {w w1 : World} {base n : Nat} {v : Value} {xs : List Value} (h : w.ownsRow base 2 1 v n xs) (hb : Below w.heap.size w w1) : w1.ownsRow base 2 1 v n xs :=
  World.ownsRow.kept h (row := none) ⟨hb.os, hb.tape, hb.output, hb.size, fun i hi _ => hb.block i hi⟩ (by cases v.ownBlock <;> simp)
theorem own_set {w : World} {B n : Nat} {v : Value} {l1 l2 l3 : List Int} {Y : Array Value} (h : w.ownsRow (B + 1) 2 1 v n (l1.map (Value.int .i64) ++ l2.map (Value.int .i64))) (he : l1 ++ l2 = l3) (hn : n = l3.length) : Own (w.setRow B Y) .i64 2 (B + 1) v l3.length l3 := by
  rw [← List.map_append, he, hn] at h
  refine World.ownsRow.kept h (row := some B) ⟨rfl, rfl, rfl, by simp, fun k _ hne => setRow_other _ _ _ _ (fun e => hne (by rw [e]))⟩ ?_
  right
  intro e
  have := (World.ownsRow.lt h B e).1
  omega
/-- Asked for so many. -/
def askP (a : Ask) (p : Int) : Ask := { a with limit := p }
/-- Ahead of page k, p a page. -/
def PgI (al : Ask) (L : List Ent) (p k : Nat) (b : Ask) : Prop :=
  b.limit = (p : Int) ∧ (∀ e, fits0 e b = fits0 e al) ∧ fl b L = (fl al L).drop (k * p) ∧ k * p ≤ (fl al L).length ∧ (0 < k → k * p < (fl al L).length)
theorem page_start {al : Ask} {L : List Ent} {p : Nat} : PgI al L p 0 (askP al (p : Int)) := by
  refine ⟨rfl, fun e => rfl, ?_, by omega, fun h => absurd h (by omega)⟩
  rw [Nat.zero_mul]
  rfl
theorem page_step {al b : Ask} {L : List Ent} {p k : Nat} (h : PgI al L p k b) (hp : 0 < p) (hg : Good L) :
    (run b L).length ≤ p ∧ ((fl al L).take (k * p)).map (·.it.id) ++ run b L = ((fl al L).take ((k + 1) * p)).map (·.it.id) ∧
    (((next b L).2 = true ∧ (run b L).length = p ∧ PgI al L p (k + 1) (next b L).1) ∨ ((next b L).2 = false ∧ ((fl al L).take ((k + 1) * p)).map (·.it.id) = (fl al L).map (·.it.id))) := by
  obtain ⟨h1, h2, h3, h4, h5⟩ := h
  obtain ⟨j, hj⟩ : ∃ j, j = k * p := ⟨_, rfl⟩
  have hj2 : (k + 1) * p = j + p := by rw [hj, Nat.succ_mul]
  rw [← hj] at h3 h4 ⊢
  rw [hj2]
  have hlt : b.limit.toNat = p := by rw [h1]; omega
  have hrun : run b L = (((fl al L).drop j).take p).map (·.it.id) := by unfold run; rw [hlt, h3]
  have hlen : (run b L).length = min p ((fl al L).length - j) := by rw [hrun, List.length_map, List.length_take, List.length_drop]
  refine ⟨by rw [hlen]; omega, ?_, ?_⟩
  · rw [hrun, ← List.map_append, ← List.take_add]
  · by_cases hm : p < (fl al L).length - j
    · have hnx : next b L = (updE b (((fl al L).drop j).take p), true) := by
        unfold next
        rw [hlt, h3, if_pos ⟨by omega, by rw [List.length_drop]; exact hm⟩]
      have hq : j + p - 1 < (fl al L).length := by omega
      have hne : ((fl al L).drop j).take p ≠ [] := by
        intro e
        have := congrArg List.length e
        rw [List.length_take, List.length_drop] at this
        simp at this
        omega
      have hlast : (((fl al L).drop j).take p).getLast hne = (fl al L)[j + p - 1] := by
        rw [List.getLast_eq_getElem, List.getElem_take, List.getElem_drop]
        congr 1
        rw [List.length_take, List.length_drop]
        omega
      have hb' : (next b L).1 = at1 b (fl al L)[j + p - 1] := by rw [hnx]; show updE b _ = _; rw [updE_last b _ hne, hlast]
      refine .inl ⟨by rw [hnx], by rw [hlen]; omega, ?_⟩
      rw [hb']
      refine ⟨h1, fun e => h2 e, ?_, by rw [hj2]; omega, fun _ => by rw [hj2]; omega⟩
      rw [hj2]
      have := fl_behind (a := al) (b := at1 b (fl al L)[j + p - 1]) hg.1 hq (fun e => h2 e) rfl rfl
      rw [this, show j + p - 1 + 1 = j + p by omega]
    · refine .inr ⟨?_, ?_⟩
      · unfold next
        rw [hlt, h3, if_neg (fun h => hm (by have := h.2; rwa [List.length_drop] at this))]
      · rw [List.take_of_length_le (by omega)]
set_option maxRecDepth 100000 in
set_option maxHeartbeats 16000000 in
theorem QueryPages_walk (A : Option Addr) (nl cl : Nat) (L0 : List Ent) (ak : Ask) (lim0 : Int) (w : World) (hE : Ents w A nl cl L0) (hA : AskWf ak) (hlim : (Lit.int .u8 lim0).wf = true) :
    Calls Try.prog 4 #[.slice A nl cl, .agg ak.cells.toArray, .int .u8 lim0] w (SayB w true) := by
  obtain ⟨Y, hY⟩ : ∃ Y, Y = ak.cells.toArray := ⟨_, rfl⟩
  rw [← hY]
  have HY0 := Lib.hid hY
  have HE0 := Lib.hid hE
  have HWF := Lib.hid hA
  have HB0 := Lib.hid (Below.refl w.heap.size w)
  have HZI := Lib.hid (show (Try.prog.info? 31).map (·.size) = some 7 by kernel_rfl)
  have HO : Hid (∀ a : Ask, a.cells.toArray.all (·.oneCell') = true) := Lib.hid (fun a => by rw [List.all_toArray, List.all_eq_true]; exact ask_one _)
  have hlimb := bounds_u8 hlim
  clear hY hE hA hlim
  go_enter Try.func4, Try.ntmps4
  go_upto_region 1 with (fail)
  obtain ⟨W1, hW1⟩ : ∃ W, W = w.alloc (.cells Y 31) := ⟨_, rfl⟩
  rw [← hW1]
  have eW1 : Below w.heap.size w W1 := by rw [hW1]; exact (Below.refl _ _).alloc (Nat.le_refl _) _
  obtain ⟨Ba, hBa⟩ : ∃ b, b = w.heap.size := ⟨_, rfl⟩
  rw [← hBa]
  have HBa1 := Lib.hid (show W1.heap[Ba]? = some (.cells Y 31 (0, 0)) by rw [hW1, hBa]; exact heap_alloc_new _ _)
  have BW1 := Lib.hid (below_trans HB0.out eW1 HB0.out.size)
  have HL1 := Lib.hid (HE0.out.below eW1)
  have HGE := Lib.hid (show w.heap.size ≤ Ba ∧ Ba < W1.heap.size from ⟨by omega, by rw [hW1, hBa]; simp⟩)
  clear hW1 eW1 hBa
  go_wp2_with fail
  refine (head_any W1).mono ?_
  rintro r W3 ⟨rfl, hb3⟩
  have HBa3 := Lib.hid (blk_below HBa1.out hb3)
  have HL3 := Lib.hid (HL1.out.below hb3)
  have B3 := Lib.hid (below_trans BW1.out hb3 BW1.out.size)
  have HGE3 := Lib.hid (show Ba < W3.heap.size from Nat.lt_of_lt_of_le HGE.out.2 hb3.size)
  clear hb3
  go_wp2_with fail
  refine (great_any A nl cl L0 W3 HL3.out).mono ?_
  rintro r w4 ⟨⟨t1, rfl, hf1⟩, rfl⟩
  have HF1 := Lib.hid hf1
  clear hf1
  have HBa3' : Hid (W3.heap[Ba]? = some (.cells ak.cells.toArray 31 (0, 0))) := Lib.hid (by have h := HBa3.out; rwa [HY0.out] at h)
  have hcs : W3.cell? ⟨Ba, 0, none⟩ = some (.string ak.serv) := at_blk HBa3'.out 0 (by rw [Ask.cells_length]; decide)
  cases t1 with
  | true =>
    go_wp2
    go_ret
    exact ⟨rfl, B3.out⟩
  | false =>
    have HFew := Lib.hid (HF1.out rfl)
    have hnl := HFew.out.1
    by_cases h9 : 900 < (ak.serv.size : Int)
    · have hd9 : decide (900 < (ak.serv.size : Int)) = true := decide_eq_true h9
      go_wp2
      go_ret
      exact ⟨rfl, B3.out⟩
    have hd9 : decide (900 < (ak.serv.size : Int)) = false := decide_eq_false h9
    go_upto_region 4 with fail
    clear hcs hd9 h9
    go_wp2_with fail
    refine (ordered_any2 A nl cl L0 W3 HL3.out HFew.out).mono ?_
    rintro r W5 ⟨⟨A1, c1, L, rfl, hE1, hgd, hlen⟩, hb5⟩
    obtain ⟨m, hm⟩ : ∃ m, m = L.length := ⟨_, rfl⟩
    rw [← hm] at hE1 hlen ⊢
    have HM := Lib.hid hm
    have HF5 := Lib.hid hE1
    have HL5 := Lib.hid hE1.1
    have HGD := Lib.hid hgd
    have hm3 : m ≤ 300 := by omega
    have HBa5 := Lib.hid (blk_below HBa3'.out hb5)
    have B5 := Lib.hid (below_trans B3.out hb5 B3.out.size)
    have hle1 := hE1.1.le
    have hsm1 := hE1.1.small
    clear hb5 hm hE1 hgd hlen hnl
    have hc1 : W5.cell? ⟨Ba, 6, none⟩ = some (.int .i64 ak.limit) := at_blk HBa5.out 6 (by rw [Ask.cells_length]; decide)
    have hf1 : W5.frozen? ⟨Ba, 6, none⟩ = false := frozen_of_row _ Ba 6 _ 31 HBa5.out
    go_upto_region 6 with fail
    obtain ⟨W6, hW6⟩ : ∃ W, W = W5.setCell ⟨Ba, 6, none⟩ (.int .i64 1000) := ⟨_, rfl⟩
    rw [← hW6]
    have HBa6 : Hid (W6.heap[Ba]? = some (.cells (askL ak).cells.toArray 31 (0, 0))) := Lib.hid (by rw [hW6]; exact heap_setCell_same _ Ba 6 _ 31 _ HBa5.out)
    have B6 := Lib.hid (show Below w.heap.size w W6 by rw [hW6]; exact B5.out.setCell (p := ⟨Ba, 6, none⟩) HGE.out.1 _)
    have HL6 := Lib.hid (show Ents W6 A1 m c1 L by rw [hW6]; exact (HF5.out.set HGE3.out).1)
    have HML := Lib.hid (show L.length ≤ 300 by rw [← HM.out]; exact hm3)
    clear hc1 hf1 hW6
    obtain ⟨al, hal⟩ : ∃ al, al = askL ak := ⟨_, rfl⟩
    rw [← hal] at HBa6
    have HAL := Lib.hid (show al.limit = 1000 by rw [hal]; rfl)
    clear hal
    go_wp2_with (refine wpList_load_row rfl 31 (.tmp 4) rfl Ba rfl 31 al.cells.toArray (0, 0) _ HBa6.out Try.underlying31 rfl HZI.out ?_)
    refine (run_any' A1 m c1 L al W6 HL6.out (by omega)).mono ?_
    rintro r W7 ⟨⟨v1, rfl, ho1⟩, hb7⟩
    obtain ⟨A2, c2, rfl, hr2, _⟩ := ho1.rd
    obtain ⟨X, hX⟩ : ∃ X, X = run al L := ⟨_, rfl⟩
    rw [← hX] at hr2 ⊢
    obtain ⟨x, hx⟩ : ∃ x, x = X.length := ⟨_, rfl⟩
    rw [← hx] at hr2 ⊢
    have hXF : X = (fl al L).map (·.it.id) := by rw [hX]; exact run_all HAL.out HML.out
    have HXF := Lib.hid hXF
    have HR7 := Lib.hid hr2
    have HBa7 := Lib.hid (blk_below HBa6.out hb7)
    have HL7 := Lib.hid (HL6.out.below hb7)
    have B7 := Lib.hid (below_trans B6.out hb7 B6.out.size)
    clear ho1 hr2 hX hx hXF hb7
    obtain ⟨l0, rfl⟩ : ∃ l0 : Nat, lim0 = l0 := ⟨lim0.toNat, (Int.toNat_of_nonneg hlimb.1).symm⟩
    have hl0 : l0 ≤ 255 := by omega
    go_upto_region 8 with (first | (refine wpList_load_row rfl 31 (.tmp 4) rfl Ba rfl 31 al.cells.toArray (0, 0) _ HBa7.out Try.underlying31 rfl HZI.out ?_) | (refine wpList_store_row rfl 31 (.tmp 10) (.tmp 32) rfl W7.heap.size al.cells.toArray rfl rfl 31 _ (heap_alloc_new _ _) HZI.out rfl (HO.out _) ?_; rw [World.setRow_alloc_new]))
    obtain ⟨W8, hW8⟩ : ∃ W, W = W7.alloc (.cells al.cells.toArray 31) := ⟨_, rfl⟩
    rw [← hW8]
    have eW8 : Below W7.heap.size W7 W8 := by rw [hW8]; exact (Below.refl _ _).alloc (Nat.le_refl _) _
    obtain ⟨Bb, hBb⟩ : ∃ b, b = W7.heap.size := ⟨_, rfl⟩
    rw [← hBb]
    have HBb8 := Lib.hid (show W8.heap[Bb]? = some (.cells al.cells.toArray 31 (0, 0)) by rw [hW8, hBb]; exact heap_alloc_new _ _)
    have BW8 := Lib.hid (below_trans B7.out eW8 B7.out.size)
    have hc1 : W8.cell? ⟨Bb, 6, none⟩ = some (.int .i64 al.limit) := at_blk HBb8.out 6 (by rw [Ask.cells_length]; decide)
    have hf1 : W8.frozen? ⟨Bb, 6, none⟩ = false := frozen_of_row _ Bb 6 _ 31 HBb8.out
    have HS8 : Hid (W8.heap.size = Bb + 1 ∧ W7.heap.size = Bb ∧ w.heap.size ≤ Bb) := Lib.hid ⟨by rw [hW8, hBb]; simp, hBb.symm, by rw [hBb]; exact B7.out.size⟩
    have EW8 := Lib.hid eW8
    clear hW8 eW8 hBb
    go_upto_region 9 with fail
    obtain ⟨W9, hW9⟩ : ∃ W, W = W8.setCell ⟨Bb, 6, none⟩ (.int .i64 (1 + (l0 : Int))) := ⟨_, rfl⟩
    rw [← hW9]
    have HBb9 : Hid (W9.heap[Bb]? = some (.cells (askP al (1 + (l0 : Int))).cells.toArray 31 (0, 0))) := Lib.hid (by rw [hW9]; exact heap_setCell_same _ Bb 6 _ 31 _ HBb8.out)
    have HS9 : Hid (W9.heap.size = Bb + 1) := Lib.hid (by rw [hW9]; have := HS8.out; simpa using this.1)
    have B79 := Lib.hid (show Below W7.heap.size W7 W9 by rw [hW9]; exact EW8.out.setCell (p := ⟨Bb, 6, none⟩) (by have := HS8.out; show W7.heap.size ≤ Bb; omega) _)
    clear hc1 hf1 hW9
    obtain ⟨p, hp⟩ : ∃ p, p = l0 + 1 := ⟨_, rfl⟩
    have hpp : (1 : Int) + (l0 : Int) = p := by omega
    rw [hpp] at HBb9
    have HP0 := Lib.hid (page_start (al := al) (L := L) (p := p))
    have hp1 : 0 < p := by omega
    have hp2 : p ≤ 256 := by omega
    clear hp hpp hl0 hlimb
    go_wp2
    go_loopw [11, 12] (fun v i wr => ∃ k : Nat, ∃ b : Ask, k ≤ m + 1 ∧ i = .int .i64 k ∧ wr.heap[Bb]? = some (.cells b.cells.toArray 31 (0, 0)) ∧ PgI al L p k b ∧ Own wr .i64 2 (Bb + 1) v (((fl al L).take (k * p)).map (·.it.id)).length (((fl al L).take (k * p)).map (·.it.id)) ∧ Below W7.heap.size W7 wr ∧ Bb + 1 ≤ wr.heap.size) (fun _ i _ => m + 1 - (intOf i).toNat)
    case atStart => exact ⟨0, _, Nat.zero_le _, rfl, HBb9.out, HP0.out, by rw [Nat.zero_mul]; exact World.ownsRow_nil _ _ _ _, B79.out, by rw [HS9.out]; exact Nat.le_refl _⟩
    case round =>
      obtain ⟨k, b, hk, rfl, hblk, hpg, hown, hbel, hsz⟩ := hrel
      have BK := Lib.hid hblk
      have PG := Lib.hid hpg
      have BL := Lib.hid hbel
      have HLr := Lib.hid (HL7.out.below hbel)
      have hkF : k * p ≤ (fl al L).length := hpg.2.2.2.1
      have hFm : (fl al L).length ≤ m := by rw [HM.out]; exact List.length_filter_le _ _
      have hkm : k ≤ m := Nat.le_trans (Nat.le_mul_of_pos_right k hp1) (Nat.le_trans hkF hFm)
      have hkn : (k : Int) ≤ m := by omega
      have hpl := hpg.1
      obtain ⟨G0, hG0⟩ : ∃ G, G = ((fl al L).take (k * p)).map (·.it.id) := ⟨_, rfl⟩
      rw [← hG0] at hown
      have hGl : G0.length ≤ m := by rw [hG0, List.length_map, List.length_take]; omega
      have HG0 := Lib.hid hG0
      have OW := Lib.hid hown
      obtain ⟨hstep1, hstep2, hstep3⟩ := page_step hpg hp1 HGD.out
      rw [← hG0] at hstep2
      have HST2 := Lib.hid hstep2
      have hlimc : ∀ w' : World, w'.heap[Bb]? = some (.cells b.cells.toArray 31 (0, 0)) → w'.cell? ⟨Bb, 6, none⟩ = some (.int .i64 (p : Int)) := fun w' h => by
        have := at_blk (a := b) h 6 (by rw [Ask.cells_length]; decide)
        rw [← hpl]; exact this
      have HLC := Lib.hid hlimc
      obtain ⟨R, hR⟩ : ∃ R, R = run b L := ⟨_, rfl⟩
      have hrn := run_any' A1 m c1 L b wr HLr.out (by omega)
      rw [← hR] at hrn hstep1 hstep3 HST2
      obtain ⟨N, hN⟩ : ∃ N, N = next b L := ⟨_, rfl⟩
      rw [← hN] at hstep3
      have HNX : Hid (∀ w' : World, Ents w' A1 m c1 L → Calls Try.prog 11 #[.slice A1 m c1, .agg b.cells.toArray] w' (NextPost w' N)) := Lib.hid (fun w' h => by rw [hN]; exact next_any' A1 m c1 L b w' h)
      have HST3 := Lib.hid hstep3
      obtain ⟨rl, hrl⟩ : ∃ rl, rl = R.length := ⟨_, rfl⟩
      rw [← hrl] at hstep1
      have HRL := Lib.hid hrl
      have HRN := Lib.hid hrn
      clear hblk hpg hown hbel hkF hFm hpl hG0 hstep2 hstep3 hlimc hR hrn hN hrl
      go_wp2_with (refine wpList_load_row rfl 31 (.tmp 10) rfl Bb rfl 31 b.cells.toArray (0, 0) _ BK.out Try.underlying31 rfl HZI.out ?_)
      refine HRN.out.mono ?_
      rintro r w1 ⟨⟨v1, rfl, ho1⟩, hb1⟩
      obtain ⟨A3, c3, rfl, hr3, _⟩ := ho1.rd
      rw [← HRL.out] at hr3 ⊢
      have HR3 := Lib.hid hr3
      have BK1 := Lib.hid (blk_below BK.out hb1)
      have OW1 := Lib.hid (Own.below OW.out hb1)
      have BL1 := Lib.hid (below_trans BL.out hb1 BL.out.size)
      have hsz1 : Bb + 1 ≤ w1.heap.size := Nat.le_trans hsz hb1.size
      have hlc := HLC.out w1 BK1.out
      have hgt : ¬ (p : Int) < rl := by omega
      have hgt2 : decide (p < rl) = false := decide_eq_false (by omega)
      clear ho1 hr3 hb1
      go_wp2_with (first | (at_builtin; refine append_src rfl (.tmp 51) (.tmp 52) 38 2 (.int .i64 0) 1 8 rfl Try.underlying38 infoN rfl (by decide) (Bb + 1) _ G0.length (G0.map (Value.int .i64)) rfl OW1.out A3 rl c3 (R.map (Value.int .i64)) rfl (Rd.src HR3.out) (by unfold maxLen; omega) (by omega) hsz1 ?_; intro v2 w2 hown hg; have H2 := Lib.hid hown; have G2 := Lib.hid hg; clear hown hg; have BK2 := Lib.hid (show w2.heap[Bb]? = some (.cells b.cells.toArray 31 (0, 0)) from (G2.out.block Bb (by omega) (fun e => by have := (World.ownsRow.lt OW1.out Bb e.symm).1; omega)).trans BK1.out); have BL2 := Lib.hid (below_grown BL1.out G2.out BL1.out.size (fun j hj => by have := (World.ownsRow.lt OW1.out j hj).1; have := HS8.out; omega)); have hsz2 : Bb + 1 ≤ w2.heap.size := Nat.le_trans hsz1 G2.out.size) | (refine wpList_load_row rfl 31 (.tmp 10) rfl Bb rfl 31 b.cells.toArray (0, 0) _ BK2.out Try.underlying31 rfl HZI.out ?_))
      refine (HNX.out w2 (HL7.out.below BL2.out)).mono ?_
      rintro r w3 ⟨rfl, hb3⟩
      have BK3 := Lib.hid (blk_below BK2.out hb3)
      have OW3 := Lib.hid (own_below2 H2.out hb3)
      have BL3 := Lib.hid (below_trans BL2.out hb3 BL2.out.size)
      have hsz3 : Bb + 1 ≤ w3.heap.size := Nat.le_trans hsz2 hb3.size
      clear hb3
      obtain ⟨mo, hmo⟩ : ∃ q, q = N.2 := ⟨_, rfl⟩
      rw [← hmo] at HST3 ⊢
      have HNC := Lib.hid (HO.out N.1)
      clear hmo hlc
      go_upto_region 18 with (refine wpList_store_row rfl 31 (.tmp 14) (.tmp 58) rfl w3.heap.size N.1.cells.toArray rfl rfl 31 _ (heap_alloc_new _ _) HZI.out rfl HNC.out ?_; rw [World.setRow_alloc_new])
      obtain ⟨W4, hW4⟩ : ∃ W, W = w3.alloc (.cells N.1.cells.toArray 31) := ⟨_, rfl⟩
      rw [← hW4]
      have eW4 : Below w3.heap.size w3 W4 := by rw [hW4]; exact (Below.refl _ _).alloc (Nat.le_refl _) _
      obtain ⟨Bn, hBn⟩ : ∃ b, b = w3.heap.size := ⟨_, rfl⟩
      rw [← hBn]
      have HBn := Lib.hid (show W4.heap[Bn]? = some (.cells N.1.cells.toArray 31 (0, 0)) by rw [hW4, hBn]; exact heap_alloc_new _ _)
      have BK4 := Lib.hid (blk_below BK3.out eW4)
      have OW4 := Lib.hid (own_below2 OW3.out eW4)
      have BL4 := Lib.hid (below_trans BL3.out eW4 BL3.out.size)
      have hsz4 : Bb + 1 ≤ W4.heap.size := Nat.le_trans hsz3 eW4.size
      have hlc4 := HLC.out W4 BK4.out
      clear hW4 eW4 hBn
      cases mo with
      | false =>
        -- the last page
        have hXX : G0 ++ R = X := by
          rcases HST3.out with ⟨h1, _⟩ | ⟨_, h2⟩
          · cases h1
          · rw [HST2.out, h2, HXF.out]
        have HXX := Lib.hid hXX
        have hown4 : Own W4 .i64 2 (Bb + 1) v2 (G0.length + rl) (G0 ++ R) := by unfold Own; rw [List.map_append]; exact OW4.out
        obtain ⟨A4, c4, hv4, hr4, _⟩ := Own.rd hown4
        have HR4 := Lib.hid hr4
        obtain ⟨n4, hn4⟩ : ∃ n, n = G0.length + rl := ⟨_, rfl⟩
        rw [← hn4] at hv4 HR4
        subst hv4
        clear hXX hlc4 hown4 hr4 hn4
        go_wp2_with fail
        refine (sameIds_any A4 A2 n4 c4 x c2 (G0 ++ R) X W4 HR4.out (HR7.out.below BL4.out)).mono ?_
        rintro r w5 ⟨rfl, hb5⟩
        have B5' := Lib.hid (below_trans (below_trans B7.out BL4.out B7.out.size) hb5 (Nat.le_trans B7.out.size BL4.out.size))
        rw [show same (G0 ++ R) X = true from decide_eq_true HXX.out]
        clear hb5
        go_wp2
        go_ret
        exact ⟨rfl, B5'.out⟩
      | true =>
        have hpg : rl = p ∧ PgI al L p (k + 1) N.1 := by
          rcases HST3.out with ⟨_, h1, h2⟩ | ⟨h1, _⟩
          · exact ⟨by rw [HRL.out]; exact h1, h2⟩
          · cases h1
        obtain ⟨hrp, hpg2⟩ := hpg
        have HPG2 := Lib.hid hpg2
        have hd3 : ((rl : Int) != (p : Int)) = false := by rw [hrp]; simp
        have hd4 : (rl != p) = false := by rw [hrp]; simp
        clear hpg2
        go_wp2_with (first | (refine wpList_load_row rfl 31 (.tmp 14) rfl Bn rfl 31 N.1.cells.toArray (0, 0) _ HBn.out Try.underlying31 rfl HZI.out ?_) | (refine wpList_store_row rfl 31 (.tmp 10) (.tmp 67) rfl Bb N.1.cells.toArray rfl rfl 31 _ BK4.out HZI.out rfl HNC.out ?_))
        go_roundw
        case rel => exact ⟨k + 1, N.1, by omega, by go_num, setRow_heap _ _ _ _ _ _ BK4.out, HPG2.out, own_set OW4.out HST2.out (by rw [← HST2.out, List.length_append, ← HRL.out]), below_setRow BL4.out (by have := HS8.out; omega), by simpa using hsz4⟩
        case measure => simp [intOf]; omega
end Go.Proofs.Ytbfnjfmnblafaaa.Qry
