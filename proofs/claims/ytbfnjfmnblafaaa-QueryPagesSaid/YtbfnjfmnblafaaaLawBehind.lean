/- QueryBehind. -/
import Derived.Test.YtbfnjfmnblafaaaLawTells
import Derived.Test.YtbfnjfmnblafaaaOpen
import Derived.Test.YtbfnjfmnblafaaaQ19
import Derived.OpenShut
import Derived.IntWalk
namespace Go.Proofs.Ytbfnjfmnblafaaa.Qry
open Go.RowKit

def askL (a : Ask) : Ask := { a with limit := 1000 }
theorem run_all {a : Ask} {L : List Ent} (hl : a.limit = 1000) (h : L.length ≤ 300) : run a L = (fl a L).map (·.it.id) := by
  have : (fl a L).length ≤ L.length := List.length_filter_le _ _
  unfold run
  rw [hl, List.take_of_length_le]
  show (fl a L).length ≤ 1000
  omega
/-- The place of the one that has a number. -/
def bh (a : Ask) (id : Int) (l : List Ent) : Ask := l.foldl (fun b e => if e.it.id = id then at1 b e else b) a
theorem bh_step (a : Ask) (id : Int) (L : List Ent) (k : Nat) (hk : k < L.length) : bh a id (L.take (k + 1)) = if L[k].it.id = id then at1 (bh a id (L.take k)) L[k] else bh a id (L.take k) := by
  unfold bh
  rw [List.take_succ_eq_append_getElem hk, List.foldl_append]
  rfl
theorem bh_none {id : Int} : ∀ (l : List Ent) (a : Ask), (∀ e ∈ l, e.it.id ≠ id) → bh a id l = a
  | [], _, _ => rfl
  | e :: l, a, h => by
    have h1 := h e (List.mem_cons_self ..)
    show bh (if e.it.id = id then at1 a e else a) id l = a
    rw [if_neg h1]
    exact bh_none l a (fun x hx => h x (List.mem_cons_of_mem _ hx))
theorem bh_at {a : Ask} {L : List Ent} {f : Ent} (hn : (L.map (·.it.id)).Nodup) (hf : f ∈ L) : bh a f.it.id L = at1 a f := by
  obtain ⟨l1, l2, rfl⟩ := List.append_of_mem hf
  rw [List.map_append, List.map_cons] at hn
  obtain ⟨_, h2, h3⟩ := List.nodup_append.1 hn
  have e1 : bh a f.it.id l1 = a := bh_none l1 a (fun x hx e => h3 x.it.id (List.mem_map.2 ⟨x, hx, rfl⟩) f.it.id (List.mem_cons_self ..) e)
  have e2 : bh a f.it.id (l1 ++ f :: l2) = bh (at1 (bh a f.it.id l1) f) f.it.id l2 := by
    unfold bh
    rw [List.foldl_append, List.foldl_cons, if_pos rfl]
  rw [e2, e1]
  exact bh_none l2 _ (fun x hx e => (List.nodup_cons.1 h2).1 (List.mem_map.2 ⟨x, hx, e⟩))
theorem behind_eq {a : Ask} {L : List Ent} {X : List Int} {k : Nat} (hl : a.limit = 1000) (h3 : L.length ≤ 300) (hg : Good L) (hX : X = (fl a L).map (·.it.id)) (hk : k < X.length) : run (bh a (X.getD k 0) L) L = X.drop (k + 1) := by
  have hkF : k < (fl a L).length := by rw [hX, List.length_map] at hk; exact hk
  have hmem : (fl a L)[k] ∈ L := (List.mem_filter.1 (List.getElem_mem hkF)).1
  have hid : X.getD k 0 = ((fl a L)[k]).it.id := by
    rw [hX, List.getD_eq_getElem?_getD, List.getElem?_map, List.getElem?_eq_getElem hkF]
    rfl
  have hb := fl_behind (a := a) (b := at1 a (fl a L)[k]) hg.1 hkF (fun e => rfl) rfl rfl
  rw [hid, bh_at hg.2.1 hmem, run_all (show (at1 a (fl a L)[k]).limit = 1000 from hl) h3]
  have e := congrArg (List.map (fun e : Ent => e.it.id)) hb
  rw [List.map_drop, ← hX] at e
  exact e
theorem Rd.drop' {w : World} {k : IntKind} {b o n c : Nat} {l : List Int} (h : Rd w k (some ⟨b, o, none⟩) n c l) (j : Nat) (hj : j ≤ n) : Rd w k (if c = j then some ⟨b, o, none⟩ else some ⟨b, o + j, none⟩) (n - j) (c - j) (l.drop j) := by
  refine ⟨by rw [List.length_drop, h.len], by have := h.le; omega, by have := h.small; omega, fun e => (by split at e <;> cases e), fun ad e h0 => ?_⟩
  have hle := h.le
  rw [if_neg (by omega)] at e
  cases e
  obtain ⟨b', o', e2, hc⟩ := h.spot _ rfl (by omega)
  cases e2
  refine ⟨b, o + j, rfl, fun i hi => ?_⟩
  rw [Nat.add_assoc, hc (j + i) (by omega), List.getD_eq_getElem?_getD, List.getD_eq_getElem?_getD, List.getElem?_drop]
def G8 (A1 A3 : Option Addr) (m c1 b2 o2 x c2 kk : Nat) (X : List Int) (bF : Ask) : Nat → Value → World → Prop
  | 0 => fun v _ => v = .bool true
  | 1 => fun v _ => v = .bool true
  | 2 => fun v _ => v = .slice A1 m c1
  | 3 => fun v _ => v = .agg bF.cells.toArray
  | 4 => fun v w => ∃ A c, v = .slice A (X.drop (kk + 1)).length c ∧ Rd w .i64 A (X.drop (kk + 1)).length c (X.drop (kk + 1))
  | 5 => fun v _ => v = .slice (some ⟨b2, o2, none⟩) x c2
  | 6 => fun v _ => v = .int .i64 kk
  | 7 => fun v _ => v = .int .i64 ((kk : Int) + 1)
  | 8 => fun v _ => v = .slice A3 (x - (kk + 1)) (c2 - (kk + 1))
  | 9 => fun v _ => v = .bool true
  | 10 => fun v _ => v = .bool true
  | 11 => fun v _ => v = .bool true
  | _ => fun _ _ => True
theorem G8_stable (A1 A3 : Option Addr) (m c1 b2 o2 x c2 kk : Nat) (X : List Int) (bF : Ask) : ∀ i v w w', G8 A1 A3 m c1 b2 o2 x c2 kk X bF i v w → Below w.heap.size w w' → G8 A1 A3 m c1 b2 o2 x c2 kk X bF i v w' := by
  intro i v w w' h hb
  match i, h with
  | 0, h => exact h
  | 1, h => exact h
  | 2, h => exact h
  | 3, h => exact h
  | 4, h => exact (by obtain ⟨A, c, e, hr⟩ := h; exact ⟨A, c, e, hr.below hb⟩)
  | 5, h => exact h
  | 6, h => exact h
  | 7, h => exact h
  | 8, h => exact h
  | 9, h => exact h
  | 10, h => exact h
  | 11, h => exact h
  | _ + 12, _ => exact trivial
set_option maxRecDepth 100000 in
set_option maxHeartbeats 16000000 in
theorem QueryBehind_walk (A : Option Addr) (nl cl : Nat) (L0 : List Ent) (ak : Ask) (at0 : Int) (w : World) (hE : Ents w A nl cl L0) (hA : AskWf ak) (hat : (Lit.int .u8 at0).wf = true) :
    Calls Try.prog 8 #[.slice A nl cl, .agg ak.cells.toArray, .int .u8 at0] w (SayB w true) := by
  obtain ⟨Y, hY⟩ : ∃ Y, Y = ak.cells.toArray := ⟨_, rfl⟩
  rw [← hY]
  have HY0 := Lib.hid hY
  have HE0 := Lib.hid hE
  have HWF := Lib.hid hA
  have HB0 := Lib.hid (Below.refl w.heap.size w)
  have HZI := Lib.hid (show (Try.prog.info? 31).map (·.size) = some 7 by kernel_rfl)
  have HO : Hid (∀ a : Ask, a.cells.toArray.all (·.oneCell') = true) := Lib.hid (fun a => by rw [List.all_toArray, List.all_eq_true]; exact ask_one _)
  have hatb := bounds_u8 hat
  clear hY hE hA hat
  go_enter Try.func8, Try.ntmps8
  go_upto_region 1 with (fail)
  obtain ⟨W1, hW1⟩ : ∃ W, W = w.alloc (.cells Y 31) := ⟨_, rfl⟩
  rw [← hW1]
  have eW1 : Below w.heap.size w W1 := by rw [hW1]; exact (Below.refl _ _).alloc (Nat.le_refl _) _
  obtain ⟨Ba, hBa⟩ : ∃ b, b = w.heap.size := ⟨_, rfl⟩
  rw [← hBa]
  have HBa1 := Lib.hid (show W1.heap[Ba]? = some (.cells Y 31 (0, 0)) by rw [hW1, hBa]; exact heap_alloc_new _ _)
  have BW1 := Lib.hid (below_trans HB0.out eW1 HB0.out.size)
  have HL1 := Lib.hid (HE0.out.below eW1)
  have HGE := Lib.hid (show w.heap.size ≤ Ba ∧ Ba < W1.heap.size from ⟨by omega, by rw [hW1, hBa]; simp⟩)
  clear hW1 eW1 hBa
  go_wp2_with fail
  refine (head_any W1).mono ?_
  rintro r W3 ⟨rfl, hb3⟩
  have HBa3 := Lib.hid (blk_below HBa1.out hb3)
  have HL3 := Lib.hid (HL1.out.below hb3)
  have B3 := Lib.hid (below_trans BW1.out hb3 BW1.out.size)
  have HGE3 := Lib.hid (show Ba < W3.heap.size from Nat.lt_of_lt_of_le HGE.out.2 hb3.size)
  clear hb3
  go_wp2_with fail
  refine (great_any A nl cl L0 W3 HL3.out).mono ?_
  rintro r w4 ⟨⟨t1, rfl, hf1⟩, rfl⟩
  have HF1 := Lib.hid hf1
  clear hf1
  have HBa3' : Hid (W3.heap[Ba]? = some (.cells ak.cells.toArray 31 (0, 0))) := Lib.hid (by have h := HBa3.out; rwa [HY0.out] at h)
  have hcs : W3.cell? ⟨Ba, 0, none⟩ = some (.string ak.serv) := at_blk HBa3'.out 0 (by rw [Ask.cells_length]; decide)
  cases t1 with
  | true =>
    go_wp2
    go_ret
    exact ⟨rfl, B3.out⟩
  | false =>
    have HFew := Lib.hid (HF1.out rfl)
    have hnl := HFew.out.1
    by_cases h9 : 900 < (ak.serv.size : Int)
    · have hd9 : decide (900 < (ak.serv.size : Int)) = true := decide_eq_true h9
      go_wp2
      go_ret
      exact ⟨rfl, B3.out⟩
    have hd9 : decide (900 < (ak.serv.size : Int)) = false := decide_eq_false h9
    go_upto_region 4 with fail
    clear hcs hd9 h9
    go_wp2_with fail
    refine (ordered_any2 A nl cl L0 W3 HL3.out HFew.out).mono ?_
    rintro r W5 ⟨⟨A1, c1, L, rfl, hE1, hgd, hlen⟩, hb5⟩
    obtain ⟨m, hm⟩ : ∃ m, m = L.length := ⟨_, rfl⟩
    rw [← hm] at hE1 hlen ⊢
    have HM := Lib.hid hm
    have HF5 := Lib.hid hE1
    have HL5 := Lib.hid hE1.1
    have HGD := Lib.hid hgd
    have hm3 : m ≤ 300 := by omega
    have HBa5 := Lib.hid (blk_below HBa3'.out hb5)
    have B5 := Lib.hid (below_trans B3.out hb5 B3.out.size)
    have hle1 := hE1.1.le
    have hsm1 := hE1.1.small
    clear hb5 hm hE1 hgd hlen hnl
    have hc1 : W5.cell? ⟨Ba, 6, none⟩ = some (.int .i64 ak.limit) := at_blk HBa5.out 6 (by rw [Ask.cells_length]; decide)
    have hf1 : W5.frozen? ⟨Ba, 6, none⟩ = false := frozen_of_row _ Ba 6 _ 31 HBa5.out
    go_upto_region 6 with fail
    obtain ⟨W6, hW6⟩ : ∃ W, W = W5.setCell ⟨Ba, 6, none⟩ (.int .i64 1000) := ⟨_, rfl⟩
    rw [← hW6]
    have HBa6 : Hid (W6.heap[Ba]? = some (.cells (askL ak).cells.toArray 31 (0, 0))) := Lib.hid (by rw [hW6]; exact heap_setCell_same _ Ba 6 _ 31 _ HBa5.out)
    have B6 := Lib.hid (show Below w.heap.size w W6 by rw [hW6]; exact B5.out.setCell (p := ⟨Ba, 6, none⟩) HGE.out.1 _)
    have HL6 := Lib.hid (show Ents W6 A1 m c1 L by rw [hW6]; exact (HF5.out.set HGE3.out).1)
    have HML := Lib.hid (show L.length ≤ 300 by rw [← HM.out]; exact hm3)
    clear hc1 hf1 hW6
    obtain ⟨al, hal⟩ : ∃ al, al = askL ak := ⟨_, rfl⟩
    rw [← hal] at HBa6
    have HAL := Lib.hid (show al.limit = 1000 by rw [hal]; rfl)
    clear hal
    go_wp2_with (refine wpList_load_row rfl 31 (.tmp 4) rfl Ba rfl 31 al.cells.toArray (0, 0) _ HBa6.out Try.underlying31 rfl HZI.out ?_)
    refine (run_any' A1 m c1 L al W6 HL6.out (by omega)).mono ?_
    rintro r W7 ⟨⟨v1, rfl, ho1⟩, hb7⟩
    obtain ⟨A2, c2, rfl, hr2, _⟩ := ho1.rd
    obtain ⟨X, hX⟩ : ∃ X, X = run al L := ⟨_, rfl⟩
    rw [← hX] at hr2 ⊢
    obtain ⟨x, hx⟩ : ∃ x, x = X.length := ⟨_, rfl⟩
    rw [← hx] at hr2 ⊢
    have hXF : X = (fl al L).map (·.it.id) := by rw [hX]; exact run_all HAL.out HML.out
    have HXF := Lib.hid hXF
    have HXL := Lib.hid hx
    have HR7 := Lib.hid hr2
    have hxle := hr2.le
    have hxsm := hr2.small
    have HBa7 := Lib.hid (blk_below HBa6.out hb7)
    have HL7 := Lib.hid (HL6.out.below hb7)
    have B7 := Lib.hid (below_trans B6.out hb7 B6.out.size)
    have hx3 : x ≤ 300 := by rw [hx, hXF, List.length_map]; exact Nat.le_trans (List.length_filter_le _ _) HML.out
    clear ho1 hr2 hX hx hXF hb7
    by_cases hx0 : x = 0
    · have hd : ((x : Int) == 0) = true := by simpa using hx0
      clear hx0
      go_wp2
      go_ret
      exact ⟨rfl, B7.out⟩
    have hxp : (0 : Int) < x := by omega
    have hd : ((x : Int) == 0) = false := by rw [beq_eq_false_iff_ne]; omega
    obtain ⟨kk, hkk⟩ : ∃ kk : Nat, at0 % (x : Int) = kk := ⟨(at0 % (x : Int)).toNat, (Int.toNat_of_nonneg (Int.emod_nonneg _ (by omega))).symm⟩
    have hkx : kk < x := by have := Int.emod_lt_of_pos at0 hxp; omega
    have HKK := Lib.hid hkk
    obtain ⟨ad2, hA2, hc0⟩ := HR7.out.cell kk hkx
    obtain ⟨b2, o2, hbo, hcx⟩ := HR7.out.spot ad2 hA2 (by omega)
    subst hbo
    subst hA2
    obtain ⟨xk, hxk⟩ : ∃ y, y = X.getD kk 0 := ⟨_, rfl⟩
    have HXK := Lib.hid hxk
    clear hc0 hcx hxk
    go_upto_region 11 with (first | (refine wpList_load_row rfl 31 (.tmp 4) rfl Ba rfl 31 al.cells.toArray (0, 0) _ HBa7.out Try.underlying31 rfl HZI.out ?_) | (refine wpList_store_row rfl 31 (.tmp 11) (.tmp 38) rfl W7.heap.size al.cells.toArray rfl rfl 31 _ (heap_alloc_new _ _) HZI.out rfl (HO.out _) ?_; rw [World.setRow_alloc_new]))
    obtain ⟨W8, hW8⟩ : ∃ W, W = W7.alloc (.cells al.cells.toArray 31) := ⟨_, rfl⟩
    rw [← hW8]
    have eW8 : Below W7.heap.size W7 W8 := by rw [hW8]; exact (Below.refl _ _).alloc (Nat.le_refl _) _
    obtain ⟨Bb, hBb⟩ : ∃ b, b = W7.heap.size := ⟨_, rfl⟩
    rw [← hBb]
    have HBb8 := Lib.hid (show W8.heap[Bb]? = some (.cells al.cells.toArray 31 (0, 0)) by rw [hW8, hBb]; exact heap_alloc_new _ _)
    have BW8 := Lib.hid (below_trans B7.out eW8 B7.out.size)
    have EW8 := Lib.hid eW8
    have HR8 := Lib.hid (HR7.out.below eW8)
    have HL8 := Lib.hid (HL7.out.below eW8)
    have HBG := Lib.hid (show w.heap.size ≤ Bb ∧ W8.heap.size = Bb + 1 ∧ W7.heap.size = Bb from ⟨by rw [hBb]; exact B7.out.size, by rw [hW8, hBb]; simp, hBb.symm⟩)
    clear hW8 eW8 hBb hd
    go_wp2
    go_loopw [12] (fun i wr => ∃ k : Nat, k ≤ m ∧ i = .int .i64 k ∧ wr.heap[Bb]? = some (.cells (bh al xk (L.take k)).cells.toArray 31 (0, 0)) ∧ Below Bb W8 wr) (fun i _ => m - (intOf i).toNat)
    case atStart => exact ⟨0, Nat.zero_le _, rfl, by rw [HBb8.out]; rfl, Below.refl _ _⟩
    case round =>
      obtain ⟨k, hk, rfl, hblk, hbel⟩ := hrel
      have BK := Lib.hid hblk
      have BL := Lib.hid hbel
      have HLr := Lib.hid (show Ents wr A1 m c1 L from HL7.out.below (by
        have h := HBG.out
        exact ⟨hbel.os.trans (EW8.out).os, hbel.tape.trans (EW8.out).tape, hbel.output.trans (EW8.out).output, Nat.le_trans (EW8.out).size hbel.size, fun i hi => (hbel.block i (by omega)).trans ((EW8.out).block i hi)⟩))
      have HRr := Lib.hid (show Rd wr .i64 (some ⟨b2, o2, none⟩) x c2 X from HR7.out.below (by
        have h := HBG.out
        exact ⟨hbel.os.trans (EW8.out).os, hbel.tape.trans (EW8.out).tape, hbel.output.trans (EW8.out).output, Nat.le_trans (EW8.out).size hbel.size, fun i hi => (hbel.block i (by omega)).trans ((EW8.out).block i hi)⟩))
      clear hblk hbel
      by_cases hlt : k < m
      · have hkn : (k : Int) < m := by omega
        have hkL : k < L.length := by rw [← HM.out]; exact hlt
        obtain ⟨ad, hAd⟩ : ∃ ad, A1 = some ad := by
          cases A1 with
          | none => have := HL6.out.nil rfl; omega
          | some ad => exact ⟨ad, rfl⟩
        obtain ⟨b, o, rfl, hcells⟩ := HLr.out.spot ad hAd (by omega)
        subst hAd
        obtain ⟨e, he⟩ : ∃ e, e = L[k] := ⟨_, rfl⟩
        have hatE := hcells k hkL
        rw [← he] at hatE
        have hid0 : wr.cell? ⟨b, o + k * 13, none⟩ = some (.int .i64 e.it.id) := hatE 0 (by rw [Ent.cells_length]; decide)
        have hid2 : wr.cell? ⟨b, o + k * 13 + 2, none⟩ = some (.int .i64 e.it.tick) := hatE 2 (by rw [Ent.cells_length]; decide)
        obtain ⟨adx, hax, hcx⟩ := HRr.out.cell kk hkx
        cases hax
        rw [← HXK.out, add_off] at hcx
        have hkxn : (kk : Int) < x := by omega
        obtain ⟨f1, f2, f3⟩ := blk_facts BK.out
        have hne : b ≠ Bb := by
          intro hh
          have h1 := hatE 12 (by rw [Ent.cells_length]; decide)
          rw [hh] at h1
          simp [World.cell?, BK.out, Ask.cells, Ent.cells, Item.cells] at h1
        have HEE := Lib.hid he
        have hst := bh_step al xk L k hkL
        rw [← he] at hst
        have HST := Lib.hid hst
        clear hcells hatE he hst
        by_cases hid : e.it.id = xk
        · have hd1 : (e.it.id == xk) = true := by simpa using hid
          have HID := Lib.hid hid
          clear hid
          go_wp2
          go_quiet (fail)
          go_wp2
          go_roundw
          case rel => exact ⟨k + 1, by omega, by go_num, by rw [HST.out, if_pos HID.out, ← at1_cells rfl]; exact two_set BK.out, (below_drewN2 BL.out _).setCell (p := ⟨Bb, 4, none⟩) (Nat.le_refl _) _ |>.setCell (p := ⟨Bb, 5, none⟩) (Nat.le_refl _) _⟩
          case measure => simp [intOf]; omega
        · have hd1 : (e.it.id == xk) = false := by simpa using hid
          have HID := Lib.hid hid
          clear hid
          go_wp2
          go_quiet (fail)
          go_wp2
          go_roundw
          case rel => exact ⟨k + 1, by omega, by go_num, by rw [HST.out, if_neg HID.out]; exact BK.out, below_drewN2 BL.out _⟩
          case measure => simp [intOf]; omega
      · have hkn : ¬ (k : Int) < m := by omega
        have htk : L.take k = L := List.take_of_length_le (by rw [← HM.out]; omega)
        rw [htk] at BK
        obtain ⟨bF, hbF⟩ : ∃ bF, bF = bh al xk L := ⟨_, rfl⟩
        rw [← hbF] at BK
        have hrun : run bF L = X.drop (kk + 1) := by
          rw [hbF, HXK.out]
          exact behind_eq HAL.out HML.out HGD.out HXF.out (by rw [← HXL.out]; exact hkx)
        have HRUN := Lib.hid hrun
        have HBF := Lib.hid (at_blk BK.out)
        obtain ⟨A3, hA3⟩ : ∃ A3, (if c2 = kk + 1 then some (⟨b2, o2, none⟩ : Addr) else some ⟨b2, o2 + (kk + 1), none⟩) = A3 := ⟨_, rfl⟩
        have hdr := Rd.drop' HRr.out (kk + 1) (by omega)
        rw [hA3] at hdr
        have HD := Lib.hid hdr
        have HA3 := Lib.hid hA3
        have hk3 : IntKind.i64.wrap ((kk : Int) + 1) = (kk : Int) + 1 := IntWalk.i64_in _ (by omega)
        have hk4 : (kk : Int) + 1 ≤ x := by omega
        have hk6 : 0 ≤ (kk : Int) + 1 := by omega
        have hk7 : ((kk : Int) + 1).toNat = kk + 1 := by omega
        clear htk hbF hrun hA3 hdr
        go_wp2_with fail
        refine Flow.wp_region_flow (by kernel_rfl) (G8 A1 A3 m c1 b2 o2 x c2 kk X bF) (by kernel_rfl) (G8_stable A1 A3 m c1 b2 o2 x c2 kk X bF) ?loc ?fin
        case loc =>
          intro i o ho a w hw hk
          match i, ho with
          | 0, ho =>
            have ho2 := Option.some.inj ho; clear ho; subst ho2
            have r7 : a.tmps.getD 7 undef = .bool true := (hk 7 (Flow.mem_looks (by kernel_rfl))).before (by kernel_rfl)
            rw [if_pos (Flow.wanted_free rfl _)]
            refine Flow.step_value (v := .bool true) ?_ ⟨Below.refl _ _, rfl⟩
            simp [execOp, Act.eval, r7, go_sem]
          | 1, ho =>
            have ho2 := Option.some.inj ho; clear ho; subst ho2
            have r70 : a.tmps.getD 70 undef = .bool true := (hk 70 (Flow.mem_looks (by kernel_rfl))).by_ 0 (by kernel_rfl) (by decide)
            rw [if_pos (Flow.wanted_free rfl _)]
            refine Flow.step_value (v := .bool true) ?_ ⟨Below.refl _ _, rfl⟩
            simp [execOp, Act.eval, r70, go_sem]
          | 2, ho =>
            have ho2 := Option.some.inj ho; clear ho; subst ho2
            have r8 : a.tmps.getD 8 undef = .slice A1 m c1 := (hk 8 (Flow.mem_looks (by kernel_rfl))).before (by kernel_rfl)
            have r71 : a.tmps.getD 71 undef = .bool true := (hk 71 (Flow.mem_looks (by kernel_rfl))).by_ 1 (by kernel_rfl) (by decide)
            rw [if_pos (Flow.wanted_by (t := 71) rfl (by kernel_rfl) r71)]
            refine Flow.step_value (v := .slice A1 m c1) ?_ ⟨Below.refl _ _, rfl⟩
            simp [execOp, Act.eval, r8, go_sem]
          | 3, ho =>
            have ho2 := Option.some.inj ho; clear ho; subst ho2
            have r11 : a.tmps.getD 11 undef = .pointer (some ⟨Bb, 0, none⟩) := (hk 11 (Flow.mem_looks (by kernel_rfl))).before (by kernel_rfl)
            have r71 : a.tmps.getD 71 undef = .bool true := (hk 71 (Flow.mem_looks (by kernel_rfl))).by_ 1 (by kernel_rfl) (by decide)
            rw [if_pos (Flow.wanted_by (t := 71) rfl (by kernel_rfl) r71)]
            refine step_load_mid 31 (.tmp 11) rfl Bb 0 r11 bF.cells _ (HBF.out.below hw).range Try.underlying31 rfl (ask_info bF) ⟨Below.refl _ _, rfl⟩
          | 4, ho =>
            have ho2 := Option.some.inj ho; clear ho; subst ho2
            have r72 : a.tmps.getD 72 undef = .slice A1 m c1 := (hk 72 (Flow.mem_looks (by kernel_rfl))).by_ 2 (by kernel_rfl) (by decide)
            have r73 : a.tmps.getD 73 undef = .agg bF.cells.toArray := (hk 73 (Flow.mem_looks (by kernel_rfl))).by_ 3 (by kernel_rfl) (by decide)
            have r71 : a.tmps.getD 71 undef = .bool true := (hk 71 (Flow.mem_looks (by kernel_rfl))).by_ 1 (by kernel_rfl) (by decide)
            rw [if_pos (Flow.wanted_by (t := 71) rfl (by kernel_rfl) r71)]
            refine Flow.step_call (f := 16) (args := #[.slice A1 m c1, .agg bF.cells.toArray]) (by simp [execOp, Act.eval, r72, r73, go_sem]) ?_
            refine (run_any' A1 m c1 L bF w (HLr.out.below hw) (by omega)).mono ?_
            rintro r w1 ⟨⟨v1, rfl, ho1⟩, hb1⟩
            rw [HRUN.out] at ho1
            obtain ⟨A4, c4, rfl, hr4, _⟩ := ho1.rd
            exact ⟨_, rfl, hb1, A4, c4, rfl, hr4⟩
          | 5, ho =>
            have ho2 := Option.some.inj ho; clear ho; subst ho2
            have r9 : a.tmps.getD 9 undef = .slice (some ⟨b2, o2, none⟩) x c2 := (hk 9 (Flow.mem_looks (by kernel_rfl))).before (by kernel_rfl)
            have r71 : a.tmps.getD 71 undef = .bool true := (hk 71 (Flow.mem_looks (by kernel_rfl))).by_ 1 (by kernel_rfl) (by decide)
            rw [if_pos (Flow.wanted_by (t := 71) rfl (by kernel_rfl) r71)]
            refine Flow.step_value (v := .slice (some ⟨b2, o2, none⟩) x c2) ?_ ⟨Below.refl _ _, rfl⟩
            simp [execOp, Act.eval, r9, go_sem]
          | 6, ho =>
            have ho2 := Option.some.inj ho; clear ho; subst ho2
            have r10 : a.tmps.getD 10 undef = .int .i64 kk := (hk 10 (Flow.mem_looks (by kernel_rfl))).before (by kernel_rfl)
            have r71 : a.tmps.getD 71 undef = .bool true := (hk 71 (Flow.mem_looks (by kernel_rfl))).by_ 1 (by kernel_rfl) (by decide)
            rw [if_pos (Flow.wanted_by (t := 71) rfl (by kernel_rfl) r71)]
            refine Flow.step_value (v := .int .i64 kk) ?_ ⟨Below.refl _ _, rfl⟩
            simp [execOp, Act.eval, r10, go_sem]
          | 7, ho =>
            have ho2 := Option.some.inj ho; clear ho; subst ho2
            have r76 : a.tmps.getD 76 undef = .int .i64 kk := (hk 76 (Flow.mem_looks (by kernel_rfl))).by_ 6 (by kernel_rfl) (by decide)
            have r71 : a.tmps.getD 71 undef = .bool true := (hk 71 (Flow.mem_looks (by kernel_rfl))).by_ 1 (by kernel_rfl) (by decide)
            rw [if_pos (Flow.wanted_by (t := 71) rfl (by kernel_rfl) r71)]
            refine Flow.step_value (v := .int .i64 ((kk : Int) + 1)) ?_ ⟨Below.refl _ _, rfl⟩
            simp [execOp, Act.eval, r76, hk3, go_sem]
          | 8, ho =>
            have ho2 := Option.some.inj ho; clear ho; subst ho2
            have r75 : a.tmps.getD 75 undef = .slice (some ⟨b2, o2, none⟩) x c2 := (hk 75 (Flow.mem_looks (by kernel_rfl))).by_ 5 (by kernel_rfl) (by decide)
            have r77 : a.tmps.getD 77 undef = .int .i64 ((kk : Int) + 1) := (hk 77 (Flow.mem_looks (by kernel_rfl))).by_ 7 (by kernel_rfl) (by decide)
            have r71 : a.tmps.getD 71 undef = .bool true := (hk 71 (Flow.mem_looks (by kernel_rfl))).by_ 1 (by kernel_rfl) (by decide)
            rw [if_pos (Flow.wanted_by (t := 71) rfl (by kernel_rfl) r71)]
            refine Flow.step_value (v := .slice A3 (x - (kk + 1)) (c2 - (kk + 1))) ?_ ⟨Below.refl _ _, rfl⟩
            rw [← HA3.out]
            simp [execOp, Act.eval, r75, r77, hk4, hk6, hk7, add_off, go_sem]
          | 9, ho =>
            have ho2 := Option.some.inj ho; clear ho; subst ho2
            have r74 := (hk 74 (Flow.mem_looks (by kernel_rfl))).by_ 4 (by kernel_rfl) (by decide)
            have r78 : a.tmps.getD 78 undef = .slice A3 (x - (kk + 1)) (c2 - (kk + 1)) := (hk 78 (Flow.mem_looks (by kernel_rfl))).by_ 8 (by kernel_rfl) (by decide)
            have r71 : a.tmps.getD 71 undef = .bool true := (hk 71 (Flow.mem_looks (by kernel_rfl))).by_ 1 (by kernel_rfl) (by decide)
            rw [if_pos (Flow.wanted_by (t := 71) rfl (by kernel_rfl) r71)]
            obtain ⟨A4, c4, e4, hr4⟩ := r74
            refine Flow.step_call (f := 15) (args := #[.slice A4 (X.drop (kk + 1)).length c4, .slice A3 (x - (kk + 1)) (c2 - (kk + 1))]) (by simp [execOp, Act.eval, e4, r78, go_sem]) ?_
            refine (sameIds_any _ _ _ _ _ _ _ _ w hr4 (HD.out.below hw)).mono ?_
            rintro r w1 ⟨rfl, hb1⟩
            exact ⟨_, rfl, hb1, congrArg Value.bool (decide_eq_true rfl)⟩
          | 10, ho =>
            have ho2 := Option.some.inj ho; clear ho; subst ho2
            have r71 : a.tmps.getD 71 undef = .bool true := (hk 71 (Flow.mem_looks (by kernel_rfl))).by_ 1 (by kernel_rfl) (by decide)
            have r79 : a.tmps.getD 79 undef = .bool true := (hk 79 (Flow.mem_looks (by kernel_rfl))).by_ 9 (by kernel_rfl) (by decide)
            rw [if_pos (Flow.wanted_free rfl _)]
            refine Flow.step_value (v := .bool true) ?_ ⟨Below.refl _ _, rfl⟩
            simp [execOp, Act.eval, r71, r79, go_sem]
          | 11, ho =>
            have ho2 := Option.some.inj ho; clear ho; subst ho2
            have r80 : a.tmps.getD 80 undef = .bool true := (hk 80 (Flow.mem_looks (by kernel_rfl))).by_ 10 (by kernel_rfl) (by decide)
            rw [if_pos (Flow.wanted_free rfl _)]
            refine Flow.step_value (v := .bool true) ?_ ⟨Below.refl _ _, rfl⟩
            simp [execOp, Act.eval, r80, go_sem]
          | _ + 12, ho => exact absurd ho (by simp)
        case fin =>
          intro a4 w4 hw4 hd4 hs4 hg4 hold
          have r := hg4 11 _ 6 rfl rfl
          refine (‹∀ (a : Act) (w : World), Code.wp _ Code.ret _ a w → _›) _ _ ?_
          refine wp_ret ?_
          have hB : Below w.heap.size w wr := B7.out.trans (show Below w.heap.size W7 wr from by
            have h := HBG.out
            exact ⟨BL.out.os.trans (EW8.out).os, BL.out.tape.trans (EW8.out).tape, BL.out.output.trans (EW8.out).output, Nat.le_trans (EW8.out).size BL.out.size, fun i hi => (BL.out.block i (by omega)).trans ((EW8.out).block i (by omega))⟩)
          refine bodyPost_ret (results_tmp rfl _ _ _) hd4 ⟨congrArg Ending.returned r, below_trans hB hw4 hB.size⟩
end Go.Proofs.Ytbfnjfmnblafaaa.Qry
