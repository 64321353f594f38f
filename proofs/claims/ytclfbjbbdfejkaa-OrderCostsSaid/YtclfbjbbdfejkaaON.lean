/- What goes, told one by one: the iterator that going hands back. -/
import Derived.Test.YtclfbjbbdfejkaaOM
import Derived.RangeFuncNested
import Derived.RangeFuncBound
import Derived.RangeFuncCalls
import Derived.RangeFuncLeaves
import Derived.RangeFuncGives
import Derived.OwnWalkIn
import Derived.TacticsInMore
import Derived.LoopNIn
import Derived.LoopIn
import Derived.WalkMore
namespace Go.Proofs.Ytclfbjbbdfejkaa.Ord
open Go.RowKit

/-- Those that are to go, as long as too much is there. -/
def goingL : List Item → Int → List Int
  | [], _ => []
  | x :: r, over => if over ≤ 0 then [] else x.id :: goingL r (over - x.cost)
theorem goingL_none (l : List Item) {over : Int} (h : over ≤ 0) : goingL l over = [] := by
  cases l with
  | nil => rfl
  | cons x r => unfold goingL; rw [if_pos h]
theorem goingL_len : ∀ (l : List Item) (over : Int), (goingL l over).length ≤ l.length
  | [], _ => Nat.le_refl _
  | x :: r, over => by
    unfold goingL
    split
    · simp
    · have := goingL_len r (over - x.cost)
      simp; omega
theorem srt_right {L : List Item} {x : Item} (h : x ∈ srt L) : right x = true ∧ x.pin = false := by
  have h1 := mem_of_st (srt_law L).2.1 h
  rw [List.mem_filter] at h1
  have h2 := h1.2
  unfold goes stays at h2
  simpa using h2
/-- What a round keeps: cells of whatever type but the row's and the box's. -/
def KeptT (W W' : World) : Prop := W.heap.size ≤ W'.heap.size ∧ ∀ (k : Nat) (cur : Array Value) (t : TypeId), W.heap[k]? = some (.cells cur t (0, 0)) → t ≠ 2 → t ≠ 26 → W'.heap[k]? = some (.cells cur t (0, 0))
/-- It abides the iterator's steps. -/
def AbT (B : Nat) (J : List Int → World → Prop) : Prop :=
  ∀ s W W' row, J s W → W.grownBy W' row → (∀ r, row = some r → B ≤ r ∧ ∃ (cur : Array Value) (t : TypeId), W.heap[r]? = some (.cells cur t (0, 0)) ∧ t ≠ 2 ∧ t ≠ 26) → J s W'
theorem AbT.below {B : Nat} {J : List Int → World → Prop} (h : AbT B J) {s : List Int} {W W' : World} (hJ : J s W) (hb : Below W.heap.size W W') : J s W' :=
  h s W W' none hJ (below_grown' hb none) (fun r e => by cases e)
theorem OwnI.keptT {w w' : World} {base g n c : Nat} {L : List Item} (h : OwnI w base (sl g n c) n L) (hk : KeptT w w') : OwnI w' base (sl g n c) n L := by
  obtain ⟨cur, h1, h2, h3, h4, h5, h6⟩ := h.block
  exact ⟨h.1, .inr ⟨g, c, cur, rfl, h2, hk.2 g cur 24 h1 (by decide) (by decide), h3, h4, h5, h6⟩⟩
theorem own_cases {w : World} {base m : Nat} {v : Value} {M : List Item} (h : OwnI w base v m M) : (v = .slice none 0 0 ∧ m = 0 ∧ M = []) ∨ ∃ g c, v = sl g m c := by
  have hl := h.len
  rcases h.2 with ⟨rfl, h0⟩ | ⟨g, c, cur, rfl, _⟩
  · refine .inl ⟨rfl, h0, ?_⟩
    rw [h0] at hl
    exact List.eq_nil_of_length_eq_zero hl
  · exact .inr ⟨g, c, rfl⟩
theorem box_cell {W : World} {B : Nat} {v : Value} {t : TypeId} (h : W.heap[B]? = some (.cells #[v] t (0, 0))) : W.cell? ⟨B, 0, none⟩ = some v ∧ W.frozen? ⟨B, 0, none⟩ = false := by
  constructor <;> simp [World.cell?, World.frozen?, h]
set_option maxRecDepth 100000 in
set_option maxHeartbeats 8000000 in
theorem going1_in (n l bl bo base : Nat) (A : Option Addr) (nI c : Nat) (L : List Item) (over : Int) (J : List Int → World → Prop) (N : Nat)
    (hY : ∀ pre x W, J pre W → pre.length < N → YieldAt Fence.wide (n - 1) Try.prog l #[.int .i64 x] W fun e W' => e = .returned (.bool true) ∧ J (pre ++ [x]) W' ∧ KeptT W W')
    (W : World) (hJ : AbT base J) (hl : W.heap[bl]? = some (.cells #[.slice A nI c] 22 (0, 0))) (ho : W.heap[bo]? = some (.cells #[.int .i64 over] 3 (0, 0))) (hI : Its W A nI c L) (hnI : nI ≤ 10000) (hN : nI ≤ N) (hov : -1000000000000000 ≤ over ∧ over ≤ 1000000000000000) (hbo : base ≤ bo) (h0 : J [] W) :
    CallsIn Fence.wide n Try.prog 34 #[.func (.yield l) #[] #[], .pointer (some ⟨bl, 0, none⟩), .pointer (some ⟨bo, 0, none⟩)] W fun e W' => e = .returned (.tuple #[]) ∧ J (goingL (srt L) over) W' := by
  refine callsIn_wide.2 ?_
  have HS := Lib.hid (sort_any A nI c L W hI hnI)
  have HLI := Lib.hid hI.len
  have HJ := Lib.hid hJ
  have HYY := Lib.hid hY
  have hc1 := (box_cell hl).1
  have HO := Lib.hid ho
  have H0 := Lib.hid h0
  have HOV := Lib.hid hov
  have HBO := Lib.hid hbo
  have HNN := Lib.hid hN
  clear hY hJ hl ho hI h0 hov hbo hN
  go_enter Try.func34, Try.ntmps34
  refine wp_scope_straight ?_
  go_wp2_with fail
  go_step3
  go_wp2_with fail
  refine HS.out.mono ?_
  rintro r W2 ⟨v, m, rfl, hown, hb2⟩
  have hm : m ≤ nI := by
    have h1 := srt_le L
    rw [hown.len, HLI.out] at h1
    exact h1
  have J2 := Lib.hid (HJ.out.below H0.out hb2)
  have O2 := Lib.hid (blk_below HO.out hb2)
  rcases own_cases hown with ⟨rfl, rfl, hM⟩ | ⟨g, c2, rfl⟩
  · have HG : Hid (goingL (srt L) over = []) := Lib.hid (by rw [hM]; rfl)
    clear hown hb2 hM
    go_wp2_with fail
    go_loopw [9] (fun i wr => i = .int .i64 0 ∧ wr = W2) (fun _ _ => 0)
    case atStart => exact ⟨rfl, rfl⟩
    case round =>
      obtain ⟨rfl, rfl⟩ := hrel
      go_wp2_with fail
      try rw [Exit.noGoto_normal]
      go_end0
      exact ⟨rfl, by rw [HG.out]; exact J2.out⟩
  · obtain ⟨M, hM⟩ : ∃ M, M = srt L := ⟨_, rfl⟩
    rw [← hM] at hown
    have HM := Lib.hid hM
    have ML := Lib.hid hown.len
    have OW2 := Lib.hid hown
    have hc2 := hown.small
    clear hown hb2 hM
    go_wp2_with fail
    go_loopw [9] (fun i wr => ∃ k : Nat, ∃ ov : Int, ∃ pre : List Int, i = .int .i64 k ∧ k ≤ m ∧ goingL M over = pre ++ goingL (M.drop k) ov ∧ pre.length = k ∧ over - k * 1048576 ≤ ov ∧ ov ≤ over ∧ J pre wr ∧ wr.heap[bo]? = some (.cells #[.int .i64 ov] 3 (0, 0)) ∧ OwnI wr W.heap.size (sl g m c2) m M) (fun i _ => m - (intOf i).toNat)
    case atStart => exact ⟨0, over, [], rfl, Nat.zero_le _, rfl, rfl, by omega, by omega, J2.out, O2.out, OW2.out⟩
    case round =>
      obtain ⟨k, ov, pre, rfl, hk, hgo, hpl, hv1, hv2, hj, hbo1, hown⟩ := hrel
      have JR := Lib.hid hj
      have BO := Lib.hid hbo1
      have OW := Lib.hid hown
      have HGO := Lib.hid hgo
      have HPL := Lib.hid hpl
      have hov1 : -1010485760000000 ≤ ov ∧ ov ≤ 1000000000000000 := by have := HOV.out; omega
      have V1 := Lib.hid hv1
      have V2 := Lib.hid hv2
      clear hj hbo1 hown hgo hpl hv1 hv2
      by_cases hlt : k < m
      · have hkn : (k : Int) < m := by omega
        have hkM : k < M.length := by rw [ML.out]; exact hlt
        obtain ⟨x, hx⟩ : ∃ x, x = M[k] := ⟨_, rfl⟩
        have hat := OW.out.at hkM
        rw [← hx] at hat
        have HAT := Lib.hid hat
        have hxr := right_cost (srt_right (L := L) (x := x) (by rw [hx]; rw [← HM.out]; exact List.getElem_mem hkM)).1
        have HDR : Hid (goingL (M.drop k) ov = if ov ≤ 0 then [] else x.id :: goingL (M.drop (k + 1)) (ov - x.cost)) := Lib.hid (by rw [List.drop_eq_getElem_cons hkM, ← hx]; rfl)
        have HII := Lib.hid (item_info x)
        have HI5 := Lib.hid (show (Try.prog.info? 24).map (·.size) = some x.cells.toArray.size from item_info x)
        have HOC := Lib.hid (show x.cells.toArray.all (·.oneCell') = true by rw [List.all_toArray, List.all_eq_true]; exact item_one x)
        clear hat hx
        go_upto_region 3 with (first | (refine wpList_load_mid rfl 24 (.tmp 11) rfl g (k * 5) rfl x.cells _ HAT.out.range Try.underlying24 rfl HII.out ?_) | (refine wpList_store_row rfl 24 (.tmp 5) (.tmp 12) rfl wr.heap.size x.cells.toArray rfl rfl 24 _ (heap_alloc_new _ _) HI5.out rfl HOC.out ?_; rw [World.setRow_alloc_new]))
        obtain ⟨W3, hW3⟩ : ∃ W, W = wr.alloc (.cells x.cells.toArray 24) := ⟨_, rfl⟩
        rw [← hW3]
        have e1 : Below wr.heap.size wr W3 := by rw [hW3]; exact (Below.refl _ _).alloc (Nat.le_refl _) _
        obtain ⟨q, hq⟩ : ∃ b, b = wr.heap.size := ⟨_, rfl⟩
        rw [← hq]
        have HB3 := Lib.hid (show W3.heap[q]? = some (.cells x.cells.toArray 24 (0, 0)) by rw [hW3, hq]; exact heap_alloc_new _ _)
        have J3 := Lib.hid (HJ.out.below JR.out e1)
        have O3 := Lib.hid (blk_below BO.out e1)
        have OW3 := Lib.hid (OW.out.below e1)
        have co := (box_cell O3.out).1
        have cx : W3.cell? ⟨q, 0, none⟩ = some (.int .i64 x.id) := at_item HB3.out 0 (by rw [Item.cells_length]; decide)
        clear hW3 e1 hq
        by_cases hz : ov ≤ 0
        · have HE : Hid (goingL M over = pre) := Lib.hid (by rw [HGO.out, goingL_none _ hz, List.append_nil])
          go_wp2_with fail
          try rw [Exit.noGoto_normal]
          go_end0
          exact ⟨rfl, by rw [← HM.out, HE.out]; exact J3.out⟩
        · have HGO2 : Hid (goingL M over = (pre ++ [x.id]) ++ goingL (M.drop (k + 1)) (ov - x.cost)) := Lib.hid (by rw [HGO.out, HDR.out, if_neg hz, List.append_assoc]; rfl)
          obtain ⟨fn, tmps, assign, body, hy, hR⟩ := HYY.out pre x.id W3 J3.out (by have := HPL.out; have := HNN.out; omega)
          go_upto_region 4 with fail
          refine (wpIn_wide (n := n)).1 ?_
          gi_wp2
          refine ⟨fun h => (by cases h), hR.mono ?_⟩
          rintro e W4 ⟨rfl, hj4, hk4⟩
          have J4 := Lib.hid hj4
          have O4 := Lib.hid (hk4.2 bo _ 3 O3.out (by decide) (by decide))
          have OW4 := Lib.hid (OW3.out.keptT hk4)
          have HB4 := Lib.hid (hk4.2 q _ 24 HB3.out (by decide) (by decide))
          have co4 := (box_cell O4.out).1
          have fo4 := (box_cell O4.out).2
          have cc4 : W4.cell? ⟨q, 3, none⟩ = some (.int .i64 x.cost) := at_item HB4.out 3 (by rw [Item.cells_length]; decide)
          clear hj4 hk4 hy co cx
          gi_wp2
          go_upto_region 6 with fail
          obtain ⟨W5, hW5⟩ : ∃ W, W = W4.setCell ⟨bo, 0, none⟩ (.int .i64 (ov - x.cost)) := ⟨_, rfl⟩
          rw [← hW5]
          have g5 : W4.grownBy W5 (some bo) := by rw [hW5]; exact grown_setCells W4 bo 0 [_]
          have J5 := Lib.hid (HJ.out (pre ++ [x.id]) W4 W5 (some bo) J4.out g5 (fun r e => by cases e; exact ⟨HBO.out, _, 3, O4.out, by decide, by decide⟩))
          have O5 : Hid (W5.heap[bo]? = some (.cells #[.int .i64 (ov - x.cost)] 3 (0, 0))) := Lib.hid (by rw [hW5]; exact heap_setCell_same W4 bo 0 _ 3 _ O4.out)
          have OW5 := Lib.hid (OW4.out.kept g5 (fun e => by
            obtain ⟨cur, h1, _⟩ := OW4.out.block
            have e2 := Option.some.inj e
            rw [e2, O4.out] at h1
            cases h1))
          clear hW5 g5 co4 fo4 cc4
          go_wp2_with fail
          go_roundw
          case rel => exact ⟨k + 1, ov - x.cost, pre ++ [x.id], by go_num, by omega, HGO2.out, by rw [List.length_append, HPL.out]; rfl, by have := V1.out; omega, by have := V2.out; omega, J5.out, O5.out, OW5.out⟩
          case measure => simp [intOf]; omega
      · have hkn : ¬ (k : Int) < m := by omega
        have HE : Hid (goingL M over = pre) := Lib.hid (by rw [HGO.out, List.drop_of_length_le (by rw [ML.out]; omega)]; simp [goingL])
        go_wp2_with fail
        try rw [Exit.noGoto_normal]
        go_end0
        exact ⟨rfl, by rw [← HM.out, HE.out]; exact JR.out⟩
end Go.Proofs.Ytclfbjbbdfejkaa.Ord
