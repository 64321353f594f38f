/- The document's Victims. -/
import Derived.Test.YtclfbjbbdfejkaaOT
import Derived.Test.YtclfbjbbdfejkaaOH
namespace Go.Proofs.Ytclfbjbbdfejkaa.Ord
open Go.RowKit

set_option maxRecDepth 100000 in
set_option maxHeartbeats 4000000 in
theorem refvictims_any (A : Option Addr) (n c : Nat) (L : List Item) (inn most : Int) (w : World) (hE : Its w A n c L) (hn : n ≤ 10000) :
    Calls Try.prog 10 #[.slice A n c, .int .i64 inn, .int .i64 most] w (VicPost L inn most w) := by
  have HE := Lib.hid hE
  have HLL := Lib.hid hE.len
  have HC := Lib.hid (refcost_any A n c L w hE (by omega))
  have hle := hE.le
  have hsm := hE.small
  have hbd := cost_bd L
  rw [hE.len] at hbd
  clear hE
  obtain ⟨ca, hca⟩ : ∃ x, x = costA L := ⟨_, rfl⟩
  obtain ⟨cp, hcp⟩ : ∃ x, x = costP L := ⟨_, rfl⟩
  have HOK : Hid (vicOk L inn most = (wth inn 0 1099511627776 && (wth most 0 1099511627776 && decide (inn + cp ≤ most)))) := Lib.hid (by rw [hcp]; rfl)
  have HVL : Hid (vicL L inn most = if vicOk L inn most = true then goingL (srt L) (inn + ca - most) else []) := Lib.hid (by rw [hca]; rfl)
  have hb1 : 0 ≤ cp ∧ cp ≤ ca ∧ ca ≤ 10485760000 := by rw [hca, hcp]; omega
  unfold CostPost at HC
  rw [← hca, ← hcp] at HC
  clear hca hcp hbd
  have NK := Lib.hid (fun (h : vicOk L inn most = false) (w' : World) (hb : Below w.heap.size w w') => (show VicPost L inn most w (.returned (.tuple #[.slice none 0 0, .bool false])) w' from ⟨_, by rw [h], by rw [HVL.out, h]; exact own0 _ _, hb⟩))
  go_enter Try.func10, Try.ntmps10
  go_wp2_with fail
  refine HC.out.mono ?_
  rintro r w1 ⟨rfl, hb1'⟩
  have B1 := Lib.hid hb1'
  clear hb1'
  by_cases h1 : inn < 0
  · have HF : Hid (vicOk L inn most = false) := Lib.hid (by rw [HOK.out]; simp [wth]; omega)
    go_wp2
    go_ret2
    exact NK.out HF.out _ B1.out
  by_cases h2 : 1099511627776 < inn
  · have HF : Hid (vicOk L inn most = false) := Lib.hid (by rw [HOK.out]; simp [wth]; omega)
    go_wp2
    go_ret2
    exact NK.out HF.out _ B1.out
  by_cases h3 : most < 0
  · have HF : Hid (vicOk L inn most = false) := Lib.hid (by rw [HOK.out]; simp [wth]; omega)
    go_wp2
    go_ret2
    exact NK.out HF.out _ B1.out
  by_cases h4 : 1099511627776 < most
  · have HF : Hid (vicOk L inn most = false) := Lib.hid (by rw [HOK.out]; simp [wth]; omega)
    go_wp2
    go_ret2
    exact NK.out HF.out _ B1.out
  by_cases h5 : most < inn + cp
  · have HF : Hid (vicOk L inn most = false) := Lib.hid (by rw [HOK.out]; simp [wth]; omega)
    go_wp2
    go_ret2
    exact NK.out HF.out _ B1.out
  have HT : Hid (vicOk L inn most = true) := Lib.hid (by rw [HOK.out]; simp [wth]; omega)
  have HVT : Hid (vicL L inn most = goingL (srt L) (inn + ca - most)) := Lib.hid (by rw [HVL.out, if_pos HT.out])
  have HS := Lib.hid (refsort_any A n c L w1 (HE.out.below B1.out) hn)
  go_upto_region 4 with fail
  clear h5
  go_wp2_with fail
  refine HS.out.mono ?_
  rintro r w2 ⟨v2, m, rfl, hown2, hb2⟩
  have hm : m ≤ n := by
    have h := srt_le L
    rw [hown2.len, HLL.out] at h
    exact h
  obtain ⟨M, hM⟩ : ∃ M, M = srt L := ⟨_, rfl⟩
  rw [← hM] at hown2 HVT
  have HM := Lib.hid hM
  obtain ⟨A2, c2, rfl, hits, _⟩ := hown2.its
  have ML := Lib.hid hown2.len
  have OW2 := Lib.hid hown2
  have B2 := Lib.hid (below_trans B1.out hb2 B1.out.size)
  have hm1 := hits.le
  have hm2 := hits.small
  clear hown2 hb2 hM hits
  go_wp2_with fail
  go_loopw [8, 11, 12] (fun s8 s11 s12 wr => ∃ k : Nat, ∃ al : Int, ∃ pre : List Int, s8 = .int .i64 al ∧ s12 = .int .i64 k ∧ k ≤ m ∧ goingL M (inn + ca - most) = pre ++ goingL (M.drop k) (inn + al - most) ∧ ca - k * 1048576 ≤ al ∧ al ≤ ca ∧ Own wr .i64 2 w.heap.size s11 k pre ∧ OwnI wr w1.heap.size (.slice A2 m c2) m M ∧ Below w.heap.size w wr) (fun _ _ s12 _ => m - (intOf s12).toNat)
  case atStart => exact ⟨0, ca, [], rfl, rfl, Nat.zero_le _, rfl, by omega, by omega, own0 _ _, OW2.out, B2.out⟩
  case round =>
    obtain ⟨k, al, pre, rfl, rfl, hk, hgo, hv1, hv2, hown, hownI, hb⟩ := hrel
    have BB := Lib.hid hb
    have OW := Lib.hid hownI
    have PW := Lib.hid hown
    have HGO := Lib.hid hgo
    have hal : -10485760000 ≤ al ∧ al ≤ 10485760000 := by omega
    have V1 := Lib.hid hv1
    have V2 := Lib.hid hv2
    have hkb : k ≤ 10000 := by omega
    clear hb hownI hown hgo hv1 hv2
    by_cases hlt : k < m
    · have hkn : (k : Int) < m := by omega
      have hkM : k < M.length := by rw [ML.out]; exact hlt
      obtain ⟨g, hg⟩ : ∃ g, A2 = some ⟨g, 0, none⟩ := by
        rcases own_cases OW.out with ⟨e, e2, _⟩ | ⟨g, c', e⟩
        · omega
        · cases e; exact ⟨g, rfl⟩
      subst hg
      obtain ⟨x, hx⟩ : ∃ x, x = M[k] := ⟨_, rfl⟩
      have hat := (show OwnI wr w1.heap.size (sl g m c2) m M from OW.out).at hkM
      rw [← hx] at hat
      have HAT := Lib.hid hat
      have hxr := right_cost (srt_right (L := L) (x := x) (by rw [hx]; rw [← HM.out]; exact List.getElem_mem hkM)).1
      have HDR : Hid (goingL (M.drop k) (inn + al - most) = if inn + al - most ≤ 0 then [] else x.id :: goingL (M.drop (k + 1)) (inn + al - most - x.cost)) := Lib.hid (by rw [List.drop_eq_getElem_cons hkM, ← hx]; rfl)
      have cid : wr.cell? ⟨g, k * 5, none⟩ = some (.int .i64 x.id) := hat 0 (by rw [Item.cells_length]; decide)
      have HXX := Lib.hid hx
      clear hat hx
      by_cases hz : most < inn + al
      · have HGO2 : Hid (goingL M (inn + ca - most) = (pre ++ [x.id]) ++ goingL (M.drop (k + 1)) (inn + (al - x.cost) - most)) := Lib.hid (by rw [HGO.out, HDR.out, if_neg (by omega), List.append_assoc, show inn + al - most - x.cost = inn + (al - x.cost) - most by omega]; rfl)
        go_upto_region 10 with (at_builtin; refine append_src rfl (.tmp 54) (.tmp 60) 26 2 (.int .i64 0) 1 8 rfl Try.underlying26 infoN rfl (by decide) w.heap.size _ k (pre.map (Value.int .i64)) rfl (PW.out.alloc _) (some ⟨wr.heap.size, 0, none⟩) 1 1 [.int .i64 x.id] rfl (Rd.src (Rd.lit wr .i64 2 [x.id] (by simp))) (by unfold maxLen; omega) (by omega) (by have := BB.out.size; simp; omega) ?_; intro v' w5 hown hgr; have H5 := Lib.hid hown; have G5 := Lib.hid hgr; clear hown hgr)
        have e5 : Below wr.heap.size wr (wr.alloc (.cells #[.int .i64 x.id] 2)) := (Below.refl _ _).alloc (Nat.le_refl _) _
        have PA := (PW.out.alloc (.cells #[.int .i64 x.id] 2))
        have O5 : OwnI w5 w1.heap.size (sl g m c2) m M := ((show OwnI wr w1.heap.size (sl g m c2) m M from OW.out).below e5).kept G5.out (fun e => by
          obtain ⟨cur, h1, _⟩ := ((show OwnI wr w1.heap.size (sl g m c2) m M from OW.out).below e5).block
          rcases row_ne (show (wr.alloc (.cells #[.int .i64 x.id] 2)).ownsRow w.heap.size 2 1 _ k (pre.map (Value.int .i64)) from PA) h1 (fun cur e => by cases e) with h2 | h2
          · exact absurd (e.trans h2) (by simp)
          · exact h2 e.symm)
        have OW5 := Lib.hid O5
        have B5 := Lib.hid (below_grown (BB.out.alloc BB.out.size (.cells #[.int .i64 x.id] 2)) G5.out (by have := BB.out.size; simp; omega) (fun j hj => (World.ownsRow.lt PA j hj).1))
        have PW5 : Hid (Own w5 .i64 2 w.heap.size v' (k + 1) (pre ++ [x.id])) := Lib.hid (by have h := H5.out; unfold Own; rw [List.map_append]; exact h)
        have ccost : w5.cell? ⟨g, k * 5 + 3, none⟩ = some (.int .i64 x.cost) := by
          have hh := O5.at hkM
          rw [← HXX.out] at hh
          exact hh 3 (by rw [Item.cells_length]; decide)
        clear e5 PA O5 cid
        go_wp2
        go_roundw
        case rel => exact ⟨k + 1, al - x.cost, pre ++ [x.id], rfl, by go_num, by omega, HGO2.out, by have := V1.out; omega, by have := V2.out; omega, PW5.out, OW5.out, B5.out⟩
        case measure => simp [intOf]; omega
      · have HE2 : Hid (goingL M (inn + ca - most) = pre) := Lib.hid (by rw [HGO.out, goingL_none _ (by omega), List.append_nil])
        go_wp2
        go_ret2
        exact ⟨_, by rw [HT.out]; rfl, by rw [HVT.out, HE2.out, PW.out.len]; exact PW.out, BB.out⟩
    · have hkn : ¬ (k : Int) < m := by omega
      have HE2 : Hid (goingL M (inn + ca - most) = pre) := Lib.hid (by rw [HGO.out, List.drop_of_length_le (by rw [ML.out]; omega)]; simp [goingL])
      go_wp2
      go_ret2
      exact ⟨_, by rw [HT.out]; rfl, by rw [HVT.out, HE2.out, PW.out.len]; exact PW.out, BB.out⟩
end Go.Proofs.Ytclfbjbbdfejkaa.Ord
