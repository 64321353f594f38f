/- QueryFilter. -/
import Derived.Test.YtbfnjfmnblafaaaLawTells
import Derived.Test.YtbfnjfmnblafaaaOpen
import Derived.Test.YtbfnjfmnblafaaaQ19
import Derived.OpenShut
namespace Go.Proofs.Ytbfnjfmnblafaaa.Qry
open Go.RowKit

theorem fl_len_le (a : Ask) (L : List Ent) : (fl a L).length ≤ L.length := List.length_filter_le _ _
theorem run_len_fl (a : Ask) (L : List Ent) : (run a L).length ≤ (fl a L).length := by
  unfold run
  rw [List.length_map, List.length_take]
  exact Nat.min_le_right _ _
theorem run_len_le (a : Ask) (L : List Ent) : (run a L).length ≤ L.length := Nat.le_trans (run_len_fl a L) (fl_len_le a L)
theorem run_len_min (a : Ask) (L : List Ent) : (run a L).length = min a.limit.toNat (fl a L).length := by
  unfold run
  rw [List.length_map, List.length_take]
theorem fl_split (a : Ask) (L : List Ent) (k : Nat) : fl a L = fl a (L.take k) ++ fl a (L.drop k) := by
  unfold fl
  rw [← List.filter_append, List.take_append_drop]
theorem filt_no (a : Ask) (L : List Ent) (k : Nat) (hk : k < L.length) (h : fits L[k] a = false) : (run a (L.take (k + 1))).length = (run a (L.take k)).length ∧ (fl a (L.take (k + 1))).length = (fl a (L.take k)).length := by
  have e : fl a (L.take (k + 1)) = fl a (L.take k) := by rw [fl_take_step a L k hk, h]; simp
  exact ⟨by unfold run; rw [e], by rw [e]⟩
theorem filt_yes (a : Ask) (L : List Ent) (k : Nat) (hk : k < L.length) (h : fits L[k] a = true) :
    ((run a (L.take k)).length < (run a L).length ∧ (run a L).getD (run a (L.take k)).length 0 = L[k].it.id ∧ (run a (L.take (k + 1))).length = (run a (L.take k)).length + 1 ∧ (fl a (L.take (k + 1))).length = (fl a (L.take k)).length + 1) ∨
    (¬ (run a (L.take k)).length < (run a L).length ∧ ¬ ((run a (L.take k)).length : Int) < a.limit ∧ (run a (L.take (k + 1))).length = (run a (L.take k)).length ∧ (fl a (L.take (k + 1))).length = (fl a (L.take k)).length + 1) := by
  have e1 : fl a (L.take (k + 1)) = fl a (L.take k) ++ [L[k]] := by rw [fl_take_step a L k hk, if_pos h]
  have e2 : fl a L = fl a (L.take k) ++ L[k] :: fl a (L.drop (k + 1)) := by
    rw [fl_split a L k, List.drop_eq_getElem_cons hk, fl_yes h]
  have l1 : (fl a (L.take (k + 1))).length = (fl a (L.take k)).length + 1 := by rw [e1]; simp
  have l2 : (fl a L).length = (fl a (L.take k)).length + 1 + (fl a (L.drop (k + 1))).length := by rw [e2]; simp; omega
  rw [run_len_min, run_len_min, run_len_min, l1, l2]
  by_cases hl : (fl a (L.take k)).length < a.limit.toNat
  · refine .inl ⟨by omega, ?_, by omega, rfl⟩
    rw [show min a.limit.toNat (fl a (L.take k)).length = (fl a (L.take k)).length by omega]
    unfold run
    rw [List.getD_eq_getElem?_getD, List.getElem?_map, List.getElem?_take, if_pos hl, e2, List.getElem?_append_right (Nat.le_refl _), Nat.sub_self]
    rfl
  · exact .inr ⟨by omega, by omega, by omega, rfl⟩
theorem filt_end (a : Ask) (L : List Ent) : (next a L).2 = (if 0 < a.limit ∧ a.limit < ((fl a L).length : Int) then true else false) ∧ (run a L).length = min a.limit.toNat (fl a L).length := by
  refine ⟨?_, run_len_min a L⟩
  unfold next
  by_cases h : 0 < a.limit ∧ a.limit.toNat < (fl a L).length
  · rw [if_pos h, if_pos ⟨h.1, by omega⟩]
  · rw [if_neg h, if_neg (fun h2 => h ⟨h2.1, by omega⟩)]
def G5 (b o m c1 k : Nat) (e : Ent) (ak : Ask) (q : Bool) : Nat → Value → World → Prop
  | 0 => fun v _ => v = .slice (some ⟨b, o, none⟩) m c1
  | 1 => fun v _ => v = .int .i64 k
  | 2 => fun v _ => v = .pointer (some ⟨b, o + k * 13, none⟩)
  | 3 => fun v _ => v = .agg e.cells.toArray
  | 4 => fun v _ => v = .agg ak.cells.toArray
  | 5 => fun v _ => v = .bool q
  | 6 => fun v _ => v = .bool (!q)
  | _ => fun _ _ => True
theorem G5_stable (b o m c1 k : Nat) (e : Ent) (ak : Ask) (q : Bool) : ∀ i v w w', G5 b o m c1 k e ak q i v w → Below w.heap.size w w' → G5 b o m c1 k e ak q i v w' := by
  intro i v w w' h hb
  match i, h with
  | 0, h => exact h
  | 1, h => exact h
  | 2, h => exact h
  | 3, h => exact h
  | 4, h => exact h
  | 5, h => exact h
  | 6, h => exact h
  | _ + 7, _ => exact trivial
set_option maxRecDepth 100000 in
set_option maxHeartbeats 16000000 in
theorem QueryFilter_walk (A : Option Addr) (nl cl : Nat) (L0 : List Ent) (ak : Ask) (w : World) (hE : Ents w A nl cl L0) (hA : AskWf ak) :
    Calls Try.prog 5 #[.slice A nl cl, .agg ak.cells.toArray] w (SayB w true) := by
  obtain ⟨Y, hY⟩ : ∃ Y, Y = ak.cells.toArray := ⟨_, rfl⟩
  rw [← hY]
  have HY0 := Lib.hid hY
  have HE0 := Lib.hid hE
  have HWF := Lib.hid hA
  have HB0 := Lib.hid (Below.refl w.heap.size w)
  have HZI := Lib.hid (show (Try.prog.info? 31).map (·.size) = some 7 by kernel_rfl)
  have HO : Hid (∀ a : Ask, a.cells.toArray.all (·.oneCell') = true) := Lib.hid (fun a => by rw [List.all_toArray, List.all_eq_true]; exact ask_one _)
  clear hY hE hA
  go_enter Try.func5, Try.ntmps5
  go_upto_region 1 with (fail)
  obtain ⟨W1, hW1⟩ : ∃ W, W = w.alloc (.cells Y 31) := ⟨_, rfl⟩
  rw [← hW1]
  have eW1 : Below w.heap.size w W1 := by rw [hW1]; exact (Below.refl _ _).alloc (Nat.le_refl _) _
  obtain ⟨Ba, hBa⟩ : ∃ b, b = w.heap.size := ⟨_, rfl⟩
  rw [← hBa]
  have HBa1 := Lib.hid (show W1.heap[Ba]? = some (.cells Y 31 (0, 0)) by rw [hW1, hBa]; exact heap_alloc_new _ _)
  have BW1 := Lib.hid (below_trans HB0.out eW1 HB0.out.size)
  have HL1 := Lib.hid (HE0.out.below eW1)
  have HGE := Lib.hid (show w.heap.size ≤ Ba ∧ Ba < W1.heap.size from ⟨by omega, by rw [hW1, hBa]; simp⟩)
  clear hW1 eW1 hBa
  go_wp2_with fail
  refine (head_any W1).mono ?_
  rintro r W3 ⟨rfl, hb3⟩
  have HBa3 := Lib.hid (blk_below HBa1.out hb3)
  have HL3 := Lib.hid (HL1.out.below hb3)
  have B3 := Lib.hid (below_trans BW1.out hb3 BW1.out.size)
  have HGE3 := Lib.hid (show Ba < W3.heap.size from Nat.lt_of_lt_of_le HGE.out.2 hb3.size)
  clear hb3
  go_wp2_with fail
  refine (great_any A nl cl L0 W3 HL3.out).mono ?_
  rintro r w4 ⟨⟨t1, rfl, hf1⟩, rfl⟩
  have HF1 := Lib.hid hf1
  clear hf1
  have HBa3' : Hid (W3.heap[Ba]? = some (.cells ak.cells.toArray 31 (0, 0))) := Lib.hid (by have h := HBa3.out; rwa [HY0.out] at h)
  have hcs : W3.cell? ⟨Ba, 0, none⟩ = some (.string ak.serv) := at_blk HBa3'.out 0 (by rw [Ask.cells_length]; decide)
  cases t1 with
  | true =>
    go_wp2
    go_ret
    exact ⟨rfl, B3.out⟩
  | false =>
    have HFew := Lib.hid (HF1.out rfl)
    have hnl := HFew.out.1
    by_cases h9 : 900 < (ak.serv.size : Int)
    · have hd9 : decide (900 < (ak.serv.size : Int)) = true := decide_eq_true h9
      go_wp2
      go_ret
      exact ⟨rfl, B3.out⟩
    have hd9 : decide (900 < (ak.serv.size : Int)) = false := decide_eq_false h9
    go_upto_region 4 with fail
    clear hcs hd9 h9
    go_wp2_with fail
    refine (ordered_any2 A nl cl L0 W3 HL3.out HFew.out).mono ?_
    rintro r W5 ⟨⟨A1, c1, L, rfl, hE1, hgd, hlen⟩, hb5⟩
    obtain ⟨m, hm⟩ : ∃ m, m = L.length := ⟨_, rfl⟩
    rw [← hm] at hE1 hlen ⊢
    have HM := Lib.hid hm
    have HF5 := Lib.hid hE1
    have HL5 := Lib.hid hE1.1
    have HGD := Lib.hid hgd
    have hm3 : m ≤ 300 := by omega
    have HBa5 := Lib.hid (blk_below HBa3'.out hb5)
    have B5 := Lib.hid (below_trans B3.out hb5 B3.out.size)
    have hle1 := hE1.1.le
    have hsm1 := hE1.1.small
    clear hb5 hm hE1 hgd hlen hnl
    go_wp2_with (refine wpList_load_row rfl 31 (.tmp 3) rfl Ba rfl 31 ak.cells.toArray (0, 0) _ HBa5.out Try.underlying31 rfl HZI.out ?_)
    refine (run_any' A1 m c1 L ak W5 HL5.out (by omega)).mono ?_
    rintro r W6 ⟨⟨v1, rfl, ho1⟩, hb6⟩
    obtain ⟨A2, c2, rfl, hr2, _⟩ := ho1.rd
    obtain ⟨X, hX⟩ : ∃ X, X = run ak L := ⟨_, rfl⟩
    rw [← hX] at hr2 ⊢
    obtain ⟨x, hx⟩ : ∃ x, x = X.length := ⟨_, rfl⟩
    rw [← hx] at hr2 ⊢
    have HXR := Lib.hid hX
    have HXL := Lib.hid hx
    have HR6 := Lib.hid hr2
    have hxle := hr2.le
    have hxsm := hr2.small
    have HBa6 := Lib.hid (blk_below HBa5.out hb6)
    have HL6 := Lib.hid (HL5.out.below hb6)
    have B6 := Lib.hid (below_trans B5.out hb6 B5.out.size)
    have HML := Lib.hid (show L.length ≤ 300 by rw [← HM.out]; exact hm3)
    have hx3 : x ≤ 300 := by rw [hx, hX]; exact Nat.le_trans (run_len_le _ _) HML.out
    have hwl := bounds_i64 HWF.out.2.2
    clear ho1 hr2 hX hx hb6
    go_wp2_with fail
    go_loopw [8, 9, 10] (fun kk mm i wr => ∃ k : Nat, k ≤ m ∧ i = .int .i64 k ∧ kk = .int .i64 (run ak (L.take k)).length ∧ mm = .int .i64 (fl ak (L.take k)).length ∧ Below W6.heap.size W6 wr) (fun _ _ i _ => m - (intOf i).toNat)
    case atStart => exact ⟨0, Nat.zero_le _, rfl, by simp [run, fl], by simp [fl], Below.refl _ _⟩
    case round =>
      obtain ⟨k, hk, rfl, rfl, rfl, hb⟩ := hrel
      have HBar := Lib.hid (blk_below HBa6.out hb)
      have HLr := Lib.hid (HL6.out.below hb)
      have HRr := Lib.hid (HR6.out.below hb)
      have BB := Lib.hid hb
      obtain ⟨j, hj⟩ : ∃ j, j = (fl ak (L.take k)).length := ⟨_, rfl⟩
      obtain ⟨i, hi⟩ : ∃ i, i = (run ak (L.take k)).length := ⟨_, rfl⟩
      rw [← hj, ← hi]
      have hjk : j ≤ k := by
        rw [hj]
        refine Nat.le_trans (fl_len_le _ _) ?_
        rw [List.length_take]; omega
      have hij : i ≤ j := by rw [hi, hj]; exact run_len_fl _ _
      have HJ := Lib.hid hj
      have HI := Lib.hid hi
      clear hb hj hi
      by_cases hlt : k < m
      · have hkn : (k : Int) < m := by omega
        have hkL : k < L.length := by rw [← HM.out]; exact hlt
        obtain ⟨ad, hAd⟩ : ∃ ad, A1 = some ad := by
          cases A1 with
          | none => have := HL6.out.nil rfl; omega
          | some ad => exact ⟨ad, rfl⟩
        obtain ⟨b, o, rfl, hcells⟩ := HLr.out.spot ad hAd (by omega)
        subst hAd
        obtain ⟨e, he⟩ : ∃ e, e = L[k] := ⟨_, rfl⟩
        have hatE := hcells k hkL
        rw [← he] at hatE
        have HEnt := Lib.hid hatE
        have HRow := Lib.hid (HLr.out.rows e (by rw [he]; exact List.getElem_mem hkL))
        have HAsk := Lib.hid (at_blk HBar.out)
        have HEE := Lib.hid he
        obtain ⟨q, hq⟩ : ∃ q, q = fits e ak := ⟨_, rfl⟩
        have HQ := Lib.hid hq.symm
        clear hcells hatE he hq
        go_wp2_with fail
        refine Flow.wp_region_flow (by kernel_rfl) (G5 b o m c1 k e ak q) (by kernel_rfl) (G5_stable b o m c1 k e ak q) ?loc ?fin
        case loc =>
          intro i o ho a w hw hk
          match i, ho with
          | 0, ho =>
            have ho2 := Option.some.inj ho; clear ho; subst ho2
            have r6 : a.tmps.getD 6 undef = .slice (some ⟨b, o, none⟩) m c1 := (hk 6 (Flow.mem_looks (by kernel_rfl))).before (by kernel_rfl)
            rw [if_pos (Flow.wanted_free rfl _)]
            refine Flow.step_value (v := .slice (some ⟨b, o, none⟩) m c1) ?_ ⟨Below.refl _ _, rfl⟩
            simp [execOp, Act.eval, r6, go_sem]
          | 1, ho =>
            have ho2 := Option.some.inj ho; clear ho; subst ho2
            have r10 : a.tmps.getD 10 undef = .int .i64 k := (hk 10 (Flow.mem_looks (by kernel_rfl))).before (by kernel_rfl)
            rw [if_pos (Flow.wanted_free rfl _)]
            refine Flow.step_value (v := .int .i64 k) ?_ ⟨Below.refl _ _, rfl⟩
            simp [execOp, Act.eval, r10, go_sem]
          | 2, ho =>
            have ho2 := Option.some.inj ho; clear ho; subst ho2
            have r34 : a.tmps.getD 34 undef = .slice (some ⟨b, o, none⟩) m c1 := (hk 34 (Flow.mem_looks (by kernel_rfl))).by_ 0 (by kernel_rfl) (by decide)
            have r35 : a.tmps.getD 35 undef = .int .i64 k := (hk 35 (Flow.mem_looks (by kernel_rfl))).by_ 1 (by kernel_rfl) (by decide)
            rw [if_pos (Flow.wanted_free rfl _)]
            refine Flow.step_value (v := .pointer (some ⟨b, o + k * 13, none⟩)) ?_ ⟨Below.refl _ _, rfl⟩
            simp [execOp, Act.eval, r34, r35, hkn, add_off, go_sem]
          | 3, ho =>
            have ho2 := Option.some.inj ho; clear ho; subst ho2
            have r36 : a.tmps.getD 36 undef = .pointer (some ⟨b, o + k * 13, none⟩) := (hk 36 (Flow.mem_looks (by kernel_rfl))).by_ 2 (by kernel_rfl) (by decide)
            rw [if_pos (Flow.wanted_free rfl _)]
            refine step_load_mid 29 (.tmp 36) rfl b (o + k * 13) r36 e.cells _ (HEnt.out.below hw).range Try.underlying29 rfl (ent_info e) ⟨Below.refl _ _, rfl⟩
          | 4, ho =>
            have ho2 := Option.some.inj ho; clear ho; subst ho2
            have r3 : a.tmps.getD 3 undef = .pointer (some ⟨Ba, 0, none⟩) := (hk 3 (Flow.mem_looks (by kernel_rfl))).before (by kernel_rfl)
            rw [if_pos (Flow.wanted_free rfl _)]
            refine step_load_mid 31 (.tmp 3) rfl Ba 0 r3 ak.cells _ (HAsk.out.below hw).range Try.underlying31 rfl (ask_info ak) ⟨Below.refl _ _, rfl⟩
          | 5, ho =>
            have ho2 := Option.some.inj ho; clear ho; subst ho2
            have r37 : a.tmps.getD 37 undef = .agg e.cells.toArray := (hk 37 (Flow.mem_looks (by kernel_rfl))).by_ 3 (by kernel_rfl) (by decide)
            have r38 : a.tmps.getD 38 undef = .agg ak.cells.toArray := (hk 38 (Flow.mem_looks (by kernel_rfl))).by_ 4 (by kernel_rfl) (by decide)
            rw [if_pos (Flow.wanted_free rfl _)]
            refine Flow.step_call (f := 13) (args := #[.agg e.cells.toArray, .agg ak.cells.toArray]) (by simp [execOp, Act.eval, r37, r38, go_sem]) ?_
            refine (fits_any e ak _ (HRow.out.below hw)).mono ?_
            rintro r w1 ⟨rfl, hb1⟩
            exact ⟨_, rfl, hb1, congrArg Value.bool HQ.out⟩
          | 6, ho =>
            have ho2 := Option.some.inj ho; clear ho; subst ho2
            have r39 : a.tmps.getD 39 undef = .bool q := (hk 39 (Flow.mem_looks (by kernel_rfl))).by_ 5 (by kernel_rfl) (by decide)
            rw [if_pos (Flow.wanted_free rfl _)]
            refine Flow.step_value (v := .bool (!q)) ?_ ⟨Below.refl _ _, rfl⟩
            simp [execOp, Act.eval, r39, go_sem]
          | _ + 7, ho => exact absurd ho (by simp)
        case fin =>
          intro a4 w4 hw4 hd4 hs4 hg hold
          have ea := Flow.act_eq (a := a4) [.slice A nl cl, .agg Y, undef, .pointer (some ⟨Ba, 0, none⟩), a4.tmps.getD 4 undef, .bool true, .slice (some ⟨b, o, none⟩) m c1, .slice A2 x c2, .int .i64 i, .int .i64 j, .int .i64 k, undef, undef, .bool true, .slice A nl cl, .bool false, .bool false, .pointer (some ⟨Ba, 0, none⟩), .string ak.serv, .int .i64 ak.serv.size, .bool false, .bool false, undef, .slice A nl cl, .slice (some ⟨b, o, none⟩) m c1, .slice (some ⟨b, o, none⟩) m c1, .agg ak.cells.toArray, .slice A2 x c2, a4.tmps.getD 28 undef, a4.tmps.getD 29 undef, a4.tmps.getD 30 undef, a4.tmps.getD 31 undef, a4.tmps.getD 32 undef, a4.tmps.getD 33 undef, a4.tmps.getD 34 undef, a4.tmps.getD 35 undef, a4.tmps.getD 36 undef, a4.tmps.getD 37 undef, a4.tmps.getD 38 undef, a4.tmps.getD 39 undef, .bool (!q), a4.tmps.getD 41 undef, a4.tmps.getD 42 undef, a4.tmps.getD 43 undef, a4.tmps.getD 44 undef, a4.tmps.getD 45 undef, a4.tmps.getD 46 undef, a4.tmps.getD 47 undef, a4.tmps.getD 48 undef, a4.tmps.getD 49 undef, a4.tmps.getD 50 undef, a4.tmps.getD 51 undef, a4.tmps.getD 52 undef, a4.tmps.getD 53 undef, a4.tmps.getD 54 undef, a4.tmps.getD 55 undef, a4.tmps.getD 56 undef, a4.tmps.getD 57 undef, a4.tmps.getD 58 undef, a4.tmps.getD 59 undef, a4.tmps.getD 60 undef, a4.tmps.getD 61 undef, a4.tmps.getD 62 undef, a4.tmps.getD 63 undef, a4.tmps.getD 64 undef, a4.tmps.getD 65 undef, undef, undef, undef, undef, undef, undef, undef, undef, undef, undef, undef, undef, undef, undef, undef, undef, undef, undef, undef, undef, undef, undef, undef, undef, undef, undef, undef, undef, undef, undef, undef, undef, undef, undef, undef, undef] hs4 hd4 (by
            intro t ht
            match t, ht with
            | 0, _ => exact Flow.old_at hold 0 (by kernel_rfl)
            | 1, _ => exact Flow.old_at hold 1 (by kernel_rfl)
            | 2, _ => exact Flow.old_at hold 2 (by kernel_rfl)
            | 3, _ => exact Flow.old_at hold 3 (by kernel_rfl)
            | 4, _ => exact rfl
            | 5, _ => exact Flow.old_at hold 5 (by kernel_rfl)
            | 6, _ => exact Flow.old_at hold 6 (by kernel_rfl)
            | 7, _ => exact Flow.old_at hold 7 (by kernel_rfl)
            | 8, _ => exact Flow.old_at hold 8 (by kernel_rfl)
            | 9, _ => exact Flow.old_at hold 9 (by kernel_rfl)
            | 10, _ => exact Flow.old_at hold 10 (by kernel_rfl)
            | 11, _ => exact Flow.old_at hold 11 (by kernel_rfl)
            | 12, _ => exact Flow.old_at hold 12 (by kernel_rfl)
            | 13, _ => exact Flow.old_at hold 13 (by kernel_rfl)
            | 14, _ => exact Flow.old_at hold 14 (by kernel_rfl)
            | 15, _ => exact Flow.old_at hold 15 (by kernel_rfl)
            | 16, _ => exact Flow.old_at hold 16 (by kernel_rfl)
            | 17, _ => exact Flow.old_at hold 17 (by kernel_rfl)
            | 18, _ => exact Flow.old_at hold 18 (by kernel_rfl)
            | 19, _ => exact Flow.old_at hold 19 (by kernel_rfl)
            | 20, _ => exact Flow.old_at hold 20 (by kernel_rfl)
            | 21, _ => exact Flow.old_at hold 21 (by kernel_rfl)
            | 22, _ => exact Flow.old_at hold 22 (by kernel_rfl)
            | 23, _ => exact Flow.old_at hold 23 (by kernel_rfl)
            | 24, _ => exact Flow.old_at hold 24 (by kernel_rfl)
            | 25, _ => exact Flow.old_at hold 25 (by kernel_rfl)
            | 26, _ => exact Flow.old_at hold 26 (by kernel_rfl)
            | 27, _ => exact Flow.old_at hold 27 (by kernel_rfl)
            | 28, _ => exact rfl
            | 29, _ => exact rfl
            | 30, _ => exact rfl
            | 31, _ => exact rfl
            | 32, _ => exact rfl
            | 33, _ => exact rfl
            | 34, _ => exact rfl
            | 35, _ => exact rfl
            | 36, _ => exact rfl
            | 37, _ => exact rfl
            | 38, _ => exact rfl
            | 39, _ => exact rfl
            | 40, _ => exact hg 6 _ 40 rfl rfl
            | 41, _ => exact rfl
            | 42, _ => exact rfl
            | 43, _ => exact rfl
            | 44, _ => exact rfl
            | 45, _ => exact rfl
            | 46, _ => exact rfl
            | 47, _ => exact rfl
            | 48, _ => exact rfl
            | 49, _ => exact rfl
            | 50, _ => exact rfl
            | 51, _ => exact rfl
            | 52, _ => exact rfl
            | 53, _ => exact rfl
            | 54, _ => exact rfl
            | 55, _ => exact rfl
            | 56, _ => exact rfl
            | 57, _ => exact rfl
            | 58, _ => exact rfl
            | 59, _ => exact rfl
            | 60, _ => exact rfl
            | 61, _ => exact rfl
            | 62, _ => exact rfl
            | 63, _ => exact rfl
            | 64, _ => exact rfl
            | 65, _ => exact rfl
            | 66, _ => exact Flow.old_at hold 66 (by kernel_rfl)
            | 67, _ => exact Flow.old_at hold 67 (by kernel_rfl)
            | 68, _ => exact Flow.old_at hold 68 (by kernel_rfl)
            | 69, _ => exact Flow.old_at hold 69 (by kernel_rfl)
            | 70, _ => exact Flow.old_at hold 70 (by kernel_rfl)
            | 71, _ => exact Flow.old_at hold 71 (by kernel_rfl)
            | 72, _ => exact Flow.old_at hold 72 (by kernel_rfl)
            | 73, _ => exact Flow.old_at hold 73 (by kernel_rfl)
            | 74, _ => exact Flow.old_at hold 74 (by kernel_rfl)
            | 75, _ => exact Flow.old_at hold 75 (by kernel_rfl)
            | 76, _ => exact Flow.old_at hold 76 (by kernel_rfl)
            | 77, _ => exact Flow.old_at hold 77 (by kernel_rfl)
            | 78, _ => exact Flow.old_at hold 78 (by kernel_rfl)
            | 79, _ => exact Flow.old_at hold 79 (by kernel_rfl)
            | 80, _ => exact Flow.old_at hold 80 (by kernel_rfl)
            | 81, _ => exact Flow.old_at hold 81 (by kernel_rfl)
            | 82, _ => exact Flow.old_at hold 82 (by kernel_rfl)
            | 83, _ => exact Flow.old_at hold 83 (by kernel_rfl)
            | 84, _ => exact Flow.old_at hold 84 (by kernel_rfl)
            | 85, _ => exact Flow.old_at hold 85 (by kernel_rfl)
            | 86, _ => exact Flow.old_at hold 86 (by kernel_rfl)
            | 87, _ => exact Flow.old_at hold 87 (by kernel_rfl)
            | 88, _ => exact Flow.old_at hold 88 (by kernel_rfl)
            | 89, _ => exact Flow.old_at hold 89 (by kernel_rfl)
            | 90, _ => exact Flow.old_at hold 90 (by kernel_rfl)
            | 91, _ => exact Flow.old_at hold 91 (by kernel_rfl)
            | 92, _ => exact Flow.old_at hold 92 (by kernel_rfl)
            | 93, _ => exact Flow.old_at hold 93 (by kernel_rfl)
            | 94, _ => exact Flow.old_at hold 94 (by kernel_rfl)
            | 95, _ => exact Flow.old_at hold 95 (by kernel_rfl)
            | 96, _ => exact Flow.old_at hold 96 (by kernel_rfl)
            | 97, _ => exact Flow.old_at hold 97 (by kernel_rfl)
            | 98, _ => exact Flow.old_at hold 98 (by kernel_rfl)
            | 99, _ => exact Flow.old_at hold 99 (by kernel_rfl)
            | 100, _ => exact Flow.old_at hold 100 (by kernel_rfl)
            | 101, _ => exact Flow.old_at hold 101 (by kernel_rfl)
            | t + 102, ht => exact absurd ht (by simp))
          rw [ea]
          generalize a4.tmps.getD 4 undef = z4
          generalize a4.tmps.getD 28 undef = z28
          generalize a4.tmps.getD 29 undef = z29
          generalize a4.tmps.getD 30 undef = z30
          generalize a4.tmps.getD 31 undef = z31
          generalize a4.tmps.getD 32 undef = z32
          generalize a4.tmps.getD 33 undef = z33
          generalize a4.tmps.getD 34 undef = z34
          generalize a4.tmps.getD 35 undef = z35
          generalize a4.tmps.getD 36 undef = z36
          generalize a4.tmps.getD 37 undef = z37
          generalize a4.tmps.getD 38 undef = z38
          generalize a4.tmps.getD 39 undef = z39
          generalize a4.tmps.getD 41 undef = z41
          generalize a4.tmps.getD 42 undef = z42
          generalize a4.tmps.getD 43 undef = z43
          generalize a4.tmps.getD 44 undef = z44
          generalize a4.tmps.getD 45 undef = z45
          generalize a4.tmps.getD 46 undef = z46
          generalize a4.tmps.getD 47 undef = z47
          generalize a4.tmps.getD 48 undef = z48
          generalize a4.tmps.getD 49 undef = z49
          generalize a4.tmps.getD 50 undef = z50
          generalize a4.tmps.getD 51 undef = z51
          generalize a4.tmps.getD 52 undef = z52
          generalize a4.tmps.getD 53 undef = z53
          generalize a4.tmps.getD 54 undef = z54
          generalize a4.tmps.getD 55 undef = z55
          generalize a4.tmps.getD 56 undef = z56
          generalize a4.tmps.getD 57 undef = z57
          generalize a4.tmps.getD 58 undef = z58
          generalize a4.tmps.getD 59 undef = z59
          generalize a4.tmps.getD 60 undef = z60
          generalize a4.tmps.getD 61 undef = z61
          generalize a4.tmps.getD 62 undef = z62
          generalize a4.tmps.getD 63 undef = z63
          generalize a4.tmps.getD 64 undef = z64
          generalize a4.tmps.getD 65 undef = z65
          clear ea
          have X4 := Lib.hid (below_trans BB.out hw4 BB.out.size)
          have HR4 := Lib.hid (HRr.out.below hw4)
          have hlim : w4.cell? ⟨Ba, 6, none⟩ = some (.int .i64 ak.limit) := (HAsk.out.below hw4) 6 (by rw [Ask.cells_length]; decide)
          have hid0 : w4.cell? ⟨b, o + k * 13, none⟩ = some (.int .i64 e.it.id) := (HEnt.out.below hw4) 0 (by rw [Ent.cells_length]; decide)
          clear hd4 hs4 hg hold hw4
          refine (‹∀ (a : Act) (w : World), Code.wp _ _ _ a w → _›) _ _ ?_
          cases q with
          | false =>
            have hst := filt_no ak L k hkL (by rw [← HEE.out]; exact HQ.out)
            rw [← HJ.out, ← HI.out] at hst
            have HST := Lib.hid hst
            clear hst hlim hid0
            go_wp2
            go_roundw
            case rel => exact ⟨k + 1, by omega, by go_num, by rw [HST.out.1], by rw [HST.out.2], X4.out⟩
            case measure => simp [intOf]; omega
          | true =>
            have hst := filt_yes ak L k hkL (by rw [← HEE.out]; exact HQ.out)
            rw [← HJ.out, ← HI.out, ← HXR.out, ← HEE.out] at hst
            rcases hst with ⟨h1, h2, h3, h4⟩ | ⟨h1, h2, h3, h4⟩
            · -- told
              have hix : i < x := by rw [HXL.out]; exact h1
              have hixn : (i : Int) < x := by omega
              obtain ⟨ad2, hA2, hc2⟩ := HR4.out.cell i hix
              rw [h2] at hc2
              subst hA2
              have HST := Lib.hid (And.intro h3 h4)
              clear h1 h2 h3 h4 hlim
              go_wp2
              go_quiet (fail)
              go_wp2
              go_roundw
              case rel => exact ⟨k + 1, by omega, by go_num, by rw [HST.out.1]; go_num, by rw [HST.out.2]; go_num, below_drewN2 X4.out _⟩
              case measure => simp [intOf]; omega
            · have hix : ¬ (i : Int) < x := by have : ¬ i < x := by rw [HXL.out]; exact h1
                                               omega
              have hdx : decide (i < x) = false := decide_eq_false (by omega)
              have hdx2 : decide ((i : Int) < (x : Int)) = false := decide_eq_false hix
              have hil : decide ((i : Int) < ak.limit) = false := decide_eq_false h2
              have HST := Lib.hid (And.intro h3 h4)
              clear h1 h2 h3 h4 hid0
              go_wp2
              go_quiet (fail)
              go_wp2
              go_roundw
              case rel => exact ⟨k + 1, by omega, by go_num, by rw [HST.out.1], by rw [HST.out.2]; go_num, below_drewN2 X4.out _⟩
              case measure => simp [intOf]; omega
      · have hkn : ¬ (k : Int) < m := by omega
        have htk : L.take k = L := List.take_of_length_le (by rw [← HM.out]; omega)
        rw [htk, ← HXR.out] at HI
        rw [htk] at HJ
        have hix : i = x := by rw [HI.out, HXL.out]
        subst hix
        have hN := next_any' A1 m c1 L ak wr HLr.out
        obtain ⟨N, hNN⟩ : ∃ N, N = next ak L := ⟨_, rfl⟩
        rw [← hNN] at hN
        have HNN := Lib.hid hNN
        have HN := Lib.hid hN
        clear htk hN hNN
        go_wp2_with (refine wpList_load_row rfl 31 (.tmp 3) rfl Ba rfl 31 ak.cells.toArray (0, 0) _ HBar.out Try.underlying31 rfl HZI.out ?_)
        refine HN.out.mono ?_
        rintro r W7 ⟨rfl, hb7⟩
        have HBa7 := Lib.hid (blk_below HBar.out hb7)
        have B7 := Lib.hid (below_trans (below_trans B6.out BB.out B6.out.size) hb7 (Nat.le_trans B6.out.size BB.out.size))
        clear hb7
        go_upto_region 18 with (refine wpList_store_row rfl 31 (.tmp 11) (.tmp 70) rfl W7.heap.size N.1.cells.toArray rfl rfl 31 _ (heap_alloc_new _ _) HZI.out rfl (HO.out _) ?_; rw [World.setRow_alloc_new])
        obtain ⟨W8, hW8⟩ : ∃ W, W = W7.alloc (.cells N.1.cells.toArray 31) := ⟨_, rfl⟩
        rw [← hW8]
        have eW8 : Below W7.heap.size W7 W8 := by rw [hW8]; exact (Below.refl _ _).alloc (Nat.le_refl _) _
        obtain ⟨Bx, hBx⟩ : ∃ b, b = W7.heap.size := ⟨_, rfl⟩
        rw [← hBx]
        have HBx8 := Lib.hid (show W8.heap[Bx]? = some (.cells N.1.cells.toArray 31 (0, 0)) by rw [hW8, hBx]; exact heap_alloc_new _ _)
        have BW8 := Lib.hid (below_trans B7.out eW8 B7.out.size)
        have HBa8 := Lib.hid (blk_below HBa7.out eW8)
        clear hW8 eW8 hBx
        have hlim : W8.cell? ⟨Ba, 6, none⟩ = some (.int .i64 ak.limit) := at_blk HBa8.out 6 (by rw [Ask.cells_length]; decide)
        have hfin := filt_end ak L
        rw [← HJ.out, ← HXR.out, ← HXL.out, ← HNN.out] at hfin
        obtain ⟨p, hp⟩ : ∃ p, p = N.2 := ⟨_, rfl⟩
        rw [← hp] at hfin ⊢
        have HFIN := Lib.hid hfin
        clear hfin hp
        by_cases hl0 : 0 < ak.limit
        · have hd0 : decide (0 < ak.limit) = true := decide_eq_true hl0
          have hnl0 : ¬ ak.limit < 0 := by omega
          by_cases hjl : ak.limit < (j : Int)
          · have hdj : decide (ak.limit < (j : Int)) = true := decide_eq_true hjl
            obtain rfl : p = true := by rw [HFIN.out.1, if_pos ⟨hl0, hjl⟩]
            have hxx : (i : Int) = ak.limit := by have := HFIN.out.2; omega
            clear HFIN
            go_wp2
            all_goals
              refine bodyPost_ret (results_tmp rfl _ _ _) rfl ⟨congrArg Ending.returned ?_, BW8.out⟩
              first | rfl | exact congrArg Value.bool (beq_iff_eq.2 (by omega))
          · have hdj : decide (ak.limit < (j : Int)) = false := decide_eq_false hjl
            obtain rfl : p = false := by rw [HFIN.out.1, if_neg (fun h => hjl h.2)]
            have hxx : (i : Int) = j := by have := HFIN.out.2; omega
            clear HFIN
            go_wp2
            all_goals
              refine bodyPost_ret (results_tmp rfl _ _ _) rfl ⟨congrArg Ending.returned ?_, BW8.out⟩
              first | rfl | exact congrArg Value.bool (beq_iff_eq.2 (by omega))
        · have hd0 : decide (0 < ak.limit) = false := decide_eq_false hl0
          obtain rfl : p = false := by rw [HFIN.out.1, if_neg (fun h => hl0 h.1)]
          have hxx : (i : Int) = 0 := by have := HFIN.out.2; omega
          clear HFIN
          go_wp2
          all_goals
            refine bodyPost_ret (results_tmp rfl _ _ _) rfl ⟨congrArg Ending.returned ?_, BW8.out⟩
            first | rfl | exact congrArg Value.bool (beq_iff_eq.2 (by omega))
end Go.Proofs.Ytbfnjfmnblafaaa.Qry
