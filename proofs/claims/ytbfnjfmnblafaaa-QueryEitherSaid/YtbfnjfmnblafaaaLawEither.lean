/- QueryEither. -/
import Derived.Test.YtbfnjfmnblafaaaLawTells
import Derived.Test.YtbfnjfmnblafaaaOpen
import Derived.Test.YtbfnjfmnblafaaaQ19
import Derived.OpenShut
namespace Go.Proofs.Ytbfnjfmnblafaaa.Qry
open Go.RowKit

/-- Asked of a class, with room for all. -/
def askK (a : Ask) (c : Int) : Ask := { a with cls := c, limit := 1000 }
/-- Those that fit, of the classes below c. -/
def cnt (a : Ask) (L : List Ent) (c : Nat) : Nat := (L.filter (fun e => fits e (askK a (-1)) && decide (e.it.cls < (c : Int)))).length
theorem fits_cls {e : Ent} {a : Ask} {c : Int} (hc : 0 ≤ c) : fits e (askK a c) = (fits e (askK a (-1)) && (e.it.cls == c)) := by
  have h3 : fits3 e (askK a c) = (e.it.cls == c) := by
    unfold fits3
    rw [show decide ((askK a c).cls < 0) = false from decide_eq_false (show ¬ c < 0 by omega)]
    rfl
  have h3' : fits3 e (askK a (-1)) = true := rfl
  have h1 : fits1 e (askK a c) = fits1 e (askK a (-1)) := rfl
  have h2 : fits2 e (askK a c) = fits2 e (askK a (-1)) := rfl
  have h4 : fits4 e (askK a c) = fits4 e (askK a (-1)) := rfl
  unfold fits
  rw [h1, h2, h3, h3', h4]
  cases fits1 e (askK a (-1)) <;> cases fits2 e (askK a (-1)) <;> cases (e.it.cls == c) <;> cases fits4 e (askK a (-1)) <;> rfl
theorem cnt_step (a : Ask) (L : List Ent) (c : Nat) : cnt a L (c + 1) = cnt a L c + (fl (askK a c) L).length := by
  induction L with
  | nil => rfl
  | cons e L ih =>
    unfold cnt fl at *
    simp only [List.filter_cons, fits_cls (e := e) (a := a) (c := (c : Int)) (by omega)]
    by_cases h1 : fits e (askK a (-1)) = true
    · rw [h1, Bool.true_and, Bool.true_and, Bool.true_and]
      rcases Int.lt_trichotomy e.it.cls c with h | h | h
      · rw [if_pos (decide_eq_true (show e.it.cls < ((c + 1 : Nat) : Int) by omega)), if_pos (decide_eq_true h), if_neg (by simp; omega), List.length_cons, List.length_cons, ih]; omega
      · rw [if_pos (decide_eq_true (show e.it.cls < ((c + 1 : Nat) : Int) by omega)), if_neg (by simp; omega), if_pos (by simp [h]), List.length_cons, List.length_cons, ih]; omega
      · rw [if_neg (by simp; omega), if_neg (by simp; omega), if_neg (by simp; omega), ih]
    · have h0 : fits e (askK a (-1)) = false := by simpa using h1
      rw [h0, Bool.false_and, Bool.false_and, Bool.false_and]
      simpa using ih
theorem cnt_zero {a : Ask} {L : List Ent} (h : ∀ e ∈ L, 0 ≤ e.it.cls) : cnt a L 0 = 0 := by
  unfold cnt
  rw [List.length_eq_zero_iff, List.filter_eq_nil_iff]
  intro e he
  have := h e he
  simp
  omega
theorem cnt_all {a : Ask} {L : List Ent} (h : ∀ e ∈ L, e.it.cls ≤ 7) : cnt a L 8 = (fl (askK a (-1)) L).length := by
  unfold cnt fl
  congr 1
  apply List.filter_congr
  intro e he
  have := h e he
  rw [decide_eq_true (show e.it.cls < ((8 : Nat) : Int) by omega), Bool.and_true]
theorem run_len {a : Ask} {L : List Ent} (hl : a.limit = 1000) (h : L.length ≤ 300) : (run a L).length = (fl a L).length := by
  have : (fl a L).length ≤ L.length := List.length_filter_le _ _
  unfold run
  rw [List.length_map, List.length_take, hl]
  simp
  omega
theorem fl_len_le (a : Ask) (L : List Ent) : (fl a L).length ≤ L.length := List.length_filter_le _ _
theorem cnt_le (a : Ask) (L : List Ent) (c : Nat) : cnt a L c ≤ L.length := List.length_filter_le _ _
set_option maxRecDepth 100000 in
set_option maxHeartbeats 16000000 in
theorem QueryEither_walk (A : Option Addr) (nl cl : Nat) (L0 : List Ent) (ak : Ask) (w : World) (hE : Ents w A nl cl L0) (hA : AskWf ak) :
    Calls Try.prog 7 #[.slice A nl cl, .agg ak.cells.toArray] w (SayB w true) := by
  obtain ⟨Y, hY⟩ : ∃ Y, Y = ak.cells.toArray := ⟨_, rfl⟩
  rw [← hY]
  have HY0 := Lib.hid hY
  have HE0 := Lib.hid hE
  have HWF := Lib.hid hA
  have HB0 := Lib.hid (Below.refl w.heap.size w)
  have HZI := Lib.hid (show (Try.prog.info? 31).map (·.size) = some 7 by kernel_rfl)
  have HO : Hid (∀ a : Ask, a.cells.toArray.all (·.oneCell') = true) := Lib.hid (fun a => by rw [List.all_toArray, List.all_eq_true]; exact ask_one _)
  clear hY hE hA
  go_enter Try.func7, Try.ntmps7
  go_upto_region 1 with (fail)
  obtain ⟨W1, hW1⟩ : ∃ W, W = w.alloc (.cells Y 31) := ⟨_, rfl⟩
  rw [← hW1]
  have eW1 : Below w.heap.size w W1 := by rw [hW1]; exact (Below.refl _ _).alloc (Nat.le_refl _) _
  obtain ⟨Ba, hBa⟩ : ∃ b, b = w.heap.size := ⟨_, rfl⟩
  rw [← hBa]
  have HBa1 := Lib.hid (show W1.heap[Ba]? = some (.cells Y 31 (0, 0)) by rw [hW1, hBa]; exact heap_alloc_new _ _)
  have BW1 := Lib.hid (below_trans HB0.out eW1 HB0.out.size)
  have HL1 := Lib.hid (HE0.out.below eW1)
  have HGE := Lib.hid (show w.heap.size ≤ Ba ∧ Ba < W1.heap.size from ⟨by omega, by rw [hW1, hBa]; simp⟩)
  clear hW1 eW1 hBa
  go_wp2_with fail
  refine (head_any W1).mono ?_
  rintro r W3 ⟨rfl, hb3⟩
  have HBa3 := Lib.hid (blk_below HBa1.out hb3)
  have HL3 := Lib.hid (HL1.out.below hb3)
  have B3 := Lib.hid (below_trans BW1.out hb3 BW1.out.size)
  have HGE3 := Lib.hid (show Ba < W3.heap.size from Nat.lt_of_lt_of_le HGE.out.2 hb3.size)
  clear hb3
  go_wp2_with fail
  refine (great_any A nl cl L0 W3 HL3.out).mono ?_
  rintro r w4 ⟨⟨t1, rfl, hf1⟩, rfl⟩
  have HF1 := Lib.hid hf1
  clear hf1
  have HBa3' : Hid (W3.heap[Ba]? = some (.cells ak.cells.toArray 31 (0, 0))) := Lib.hid (by have h := HBa3.out; rwa [HY0.out] at h)
  have hcs : W3.cell? ⟨Ba, 0, none⟩ = some (.string ak.serv) := at_blk HBa3'.out 0 (by rw [Ask.cells_length]; decide)
  cases t1 with
  | true =>
    go_wp2
    go_ret
    exact ⟨rfl, B3.out⟩
  | false =>
    have HFew := Lib.hid (HF1.out rfl)
    have hnl := HFew.out.1
    by_cases h9 : 900 < (ak.serv.size : Int)
    · have hd9 : decide (900 < (ak.serv.size : Int)) = true := decide_eq_true h9
      go_wp2
      go_ret
      exact ⟨rfl, B3.out⟩
    have hd9 : decide (900 < (ak.serv.size : Int)) = false := decide_eq_false h9
    go_upto_region 4 with fail
    clear hcs hd9 h9
    go_wp2_with fail
    refine (ordered_any2 A nl cl L0 W3 HL3.out HFew.out).mono ?_
    rintro r W5 ⟨⟨A1, c1, L, rfl, hE1, hgd, hlen⟩, hb5⟩
    obtain ⟨m, hm⟩ : ∃ m, m = L.length := ⟨_, rfl⟩
    rw [← hm] at hE1 hlen ⊢
    have HM := Lib.hid hm
    have HF5 := Lib.hid hE1
    have HL5 := Lib.hid hE1.1
    have HGD := Lib.hid hgd
    have hm3 : m ≤ 300 := by omega
    have HBa5 := Lib.hid (blk_below HBa3'.out hb5)
    have B5 := Lib.hid (below_trans B3.out hb5 B3.out.size)
    have hle1 := hE1.1.le
    have hsm1 := hE1.1.small
    clear hb5 hm hE1 hgd hlen hnl
    -- a.Class = -1, a.Limit = 1000
    have hc0 : W5.cell? ⟨Ba, 3, none⟩ = some (.int .i64 ak.cls) := at_blk HBa5.out 3 (by rw [Ask.cells_length]; decide)
    have hf0 : W5.frozen? ⟨Ba, 3, none⟩ = false := frozen_of_row _ Ba 3 _ 31 HBa5.out
    have hc1 : W5.cell? ⟨Ba, 6, none⟩ = some (.int .i64 ak.limit) := at_blk HBa5.out 6 (by rw [Ask.cells_length]; decide)
    have hf1 : W5.frozen? ⟨Ba, 6, none⟩ = false := frozen_of_row _ Ba 6 _ 31 HBa5.out
    go_upto_region 7 with fail
    obtain ⟨W6, hW6⟩ : ∃ W, W = (W5.setCell ⟨Ba, 3, none⟩ (.int .i64 (-1))).setCell ⟨Ba, 6, none⟩ (.int .i64 1000) := ⟨_, rfl⟩
    rw [← hW6]
    have HBa6 : Hid (W6.heap[Ba]? = some (.cells (askK ak (-1)).cells.toArray 31 (0, 0))) := Lib.hid (by rw [hW6]; exact heap_setCell_same _ Ba 6 _ 31 _ (heap_setCell_same _ Ba 3 _ 31 _ HBa5.out))
    have B6 := Lib.hid (show Below w.heap.size w W6 by rw [hW6]; exact (B5.out.setCell (p := ⟨Ba, 3, none⟩) HGE.out.1 _).setCell (p := ⟨Ba, 6, none⟩) HGE.out.1 _)
    have HL6 := Lib.hid (show Ents W6 A1 m c1 L by rw [hW6]; exact ((HF5.out.set HGE3.out).set HGE3.out).1)
    clear hc0 hf0 hc1 hf1 hW6
    go_wp2
    go_loop [8] (fun i => ∃ k : Nat, k ≤ m ∧ i = .int .i64 k ∧ ∀ e ∈ L.take k, 0 ≤ e.it.cls ∧ e.it.cls ≤ 7) (fun i => m - (intOf i).toNat)
    case atStart => exact ⟨0, Nat.zero_le _, rfl, fun e he => absurd he (by simp)⟩
    case round =>
      obtain ⟨k, hk, rfl, hall⟩ := hrel
      have ALL := Lib.hid hall
      clear hall
      by_cases hlt : k < m
      · have hkn : (k : Int) < m := by omega
        have hkL : k < L.length := by rw [← HM.out]; exact hlt
        obtain ⟨ad, hAd⟩ : ∃ ad, A1 = some ad := by
          cases A1 with
          | none => have := HL6.out.nil rfl; omega
          | some ad => exact ⟨ad, rfl⟩
        obtain ⟨b, o, rfl, hcells⟩ := HL6.out.spot ad hAd (by omega)
        subst hAd
        obtain ⟨x, hx⟩ : ∃ x, x = L[k] := ⟨_, rfl⟩
        have hatE := hcells k hkL
        rw [← hx] at hatE
        have d1 : W6.cell? ⟨b, o + k * 13 + 1, none⟩ = some (.int .i64 x.it.cls) := hatE 1 (by rw [Ent.cells_length]; decide)
        have HXX := Lib.hid hx
        clear hcells hatE hx
        by_cases h0 : x.it.cls < 0
        · have hd0 : decide (x.it.cls < 0) = true := decide_eq_true h0
          go_wp2
          go_ret
          exact ⟨rfl, B6.out⟩
        have hd0 : decide (x.it.cls < 0) = false := decide_eq_false h0
        by_cases h7 : 7 < x.it.cls
        · have hd7 : decide (7 < x.it.cls) = true := decide_eq_true h7
          go_wp2
          go_ret
          exact ⟨rfl, B6.out⟩
        have hd7 : decide (7 < x.it.cls) = false := decide_eq_false h7
        go_wp2
        go_round
        case rel => exact ⟨k + 1, by omega, by go_num, fun e he => by
          rw [List.take_succ_eq_append_getElem hkL] at he
          rcases List.mem_append.1 he with h1 | h1
          · exact ALL.out e h1
          · obtain rfl := List.mem_singleton.1 h1
            rw [← HXX.out]; omega⟩
        case measure => simp [intOf]; omega
      · have hkn : ¬ (k : Int) < m := by omega
        have htk : L.take k = L := List.take_of_length_le (by rw [← HM.out]; omega)
        rw [htk] at ALL
        have C0 := Lib.hid (cnt_zero (a := ak) (fun e he => (ALL.out e he).1))
        have C8 := Lib.hid (cnt_all (a := ak) (fun e he => (ALL.out e he).2))
        have HML := Lib.hid (show L.length ≤ 300 by rw [← HM.out]; exact hm3)
        clear htk
        go_wp2_with fail
        go_loopw [7, 9] (fun n i wr => ∃ c : Nat, c ≤ 8 ∧ i = .int .i64 c ∧ n = .int .i64 (cnt ak L c) ∧ Below W6.heap.size W6 wr) (fun _ i _ => 8 - (intOf i).toNat)
        case atStart => exact ⟨0, by omega, rfl, by rw [C0.out]; rfl, Below.refl _ _⟩
        case round =>
          obtain ⟨c, hc8, rfl, rfl, hb⟩ := hrel
          have HBar := Lib.hid (blk_below HBa6.out hb)
          have HLr := Lib.hid (HL6.out.below hb)
          have BB := Lib.hid hb
          have hcl : cnt ak L c ≤ 300 := Nat.le_trans (cnt_le _ _ _) HML.out
          clear hb
          by_cases hlt2 : c < 8
          · have hcn : (c : Int) < 8 := by omega
            go_upto_region 17 with (first | (refine wpList_load_row rfl 31 (.tmp 3) rfl Ba rfl 31 (askK ak (-1)).cells.toArray (0, 0) _ HBar.out Try.underlying31 rfl HZI.out ?_) | (refine wpList_store_row rfl 31 (.tmp 10) (.tmp 52) rfl wr.heap.size (askK ak (-1)).cells.toArray rfl rfl 31 _ (heap_alloc_new _ _) HZI.out rfl (HO.out _) ?_; rw [World.setRow_alloc_new]))
            obtain ⟨W7, hW7⟩ : ∃ W, W = wr.alloc (.cells (askK ak (-1)).cells.toArray 31) := ⟨_, rfl⟩
            rw [← hW7]
            have eW7 : Below wr.heap.size wr W7 := by rw [hW7]; exact (Below.refl _ _).alloc (Nat.le_refl _) _
            obtain ⟨Bb, hBb⟩ : ∃ b, b = wr.heap.size := ⟨_, rfl⟩
            rw [← hBb]
            have HBb7 := Lib.hid (show W7.heap[Bb]? = some (.cells (askK ak (-1)).cells.toArray 31 (0, 0)) by rw [hW7, hBb]; exact heap_alloc_new _ _)
            have BW7 := Lib.hid (below_trans BB.out eW7 BB.out.size)
            have HL7 := Lib.hid (HLr.out.below eW7)
            have hcc : W7.cell? ⟨Bb, 3, none⟩ = some (.int .i64 (-1)) := at_blk HBb7.out 3 (by rw [Ask.cells_length]; decide)
            have hff : W7.frozen? ⟨Bb, 3, none⟩ = false := frozen_of_row _ Bb 3 _ 31 HBb7.out
            have HBG := Lib.hid (show wr.heap.size ≤ Bb by omega)
            have EW7 := Lib.hid eW7
            clear hW7 eW7 hBb
            go_upto_region 18 with fail
            obtain ⟨W8, hW8⟩ : ∃ W, W = W7.setCell ⟨Bb, 3, none⟩ (.int .i64 c) := ⟨_, rfl⟩
            rw [← hW8]
            have hb8 : Below wr.heap.size wr W8 := by rw [hW8]; exact EW7.out.setCell (p := ⟨Bb, 3, none⟩) HBG.out _
            have HBb8 : Hid (W8.heap[Bb]? = some (.cells (askK ak c).cells.toArray 31 (0, 0))) := Lib.hid (by rw [hW8]; exact heap_setCell_same _ Bb 3 _ 31 _ HBb7.out)
            have HL8 := Lib.hid (HLr.out.below hb8)
            have BB8 := Lib.hid (below_trans BB.out hb8 BB.out.size)
            clear hcc hff hW8 hb8
            go_wp2_with (refine wpList_load_row rfl 31 (.tmp 10) rfl Bb rfl 31 (askK ak c).cells.toArray (0, 0) _ HBb8.out Try.underlying31 rfl HZI.out ?_)
            refine (run_any' A1 m c1 L (askK ak c) W8 HL8.out (by omega)).mono ?_
            rintro r W9 ⟨⟨v1, rfl, ho1⟩, hb9⟩
            obtain ⟨A2, c2, rfl, _, _⟩ := ho1.rd
            have hrl := run_len (a := askK ak c) (L := L) rfl HML.out
            have hst := cnt_step ak L c
            have hle9 : (run (askK ak c) L).length ≤ 300 := by rw [hrl]; exact Nat.le_trans (fl_len_le _ _) HML.out
            have HST := Lib.hid (show cnt ak L (c + 1) = cnt ak L c + (run (askK ak c) L).length by rw [hrl]; exact hst)
            obtain ⟨rl, hrl2⟩ : ∃ x, x = (run (askK ak c) L).length := ⟨_, rfl⟩
            rw [← hrl2] at hle9 HST ⊢
            have BB9 := Lib.hid (below_trans BB8.out hb9 BB8.out.size)
            clear ho1 hb9 hrl hst hrl2
            go_wp2
            go_roundw
            case rel => exact ⟨c + 1, by omega, by go_num, by rw [HST.out]; go_num, BB9.out⟩
            case measure => simp [intOf]; omega
          · have e8 : c = 8 := by omega
            subst e8
            have hcn : ¬ ((8 : Nat) : Int) < 8 := by decide
            go_wp2_with (refine unguard rfl ?_; refine wpList_load_row rfl 31 (.tmp 3) rfl Ba rfl 31 (askK ak (-1)).cells.toArray (0, 0) _ HBar.out Try.underlying31 rfl HZI.out ?_)
            refine (run_any' A1 m c1 L (askK ak (-1)) wr HLr.out (by omega)).mono ?_
            rintro r W9 ⟨⟨v1, rfl, ho1⟩, hb9⟩
            obtain ⟨A2, c2, rfl, _, _⟩ := ho1.rd
            have hrl := run_len (a := askK ak (-1)) (L := L) rfl HML.out
            rw [hrl, ← C8.out]
            have BB9 := Lib.hid (below_trans (below_trans B6.out BB.out B6.out.size) hb9 (Nat.le_trans B6.out.size BB.out.size))
            clear ho1 hb9 hrl
            go_wp2
            go_ret
            exact ⟨rfl, BB9.out⟩
end Go.Proofs.Ytbfnjfmnblafaaa.Qry
