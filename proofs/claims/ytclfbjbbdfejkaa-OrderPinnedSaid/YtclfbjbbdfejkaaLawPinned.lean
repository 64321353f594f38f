/- OrderPinned. -/
import Derived.Test.YtclfbjbbdfejkaaPin
namespace Go.Proofs.Ytclfbjbbdfejkaa.Ord
open Go.RowKit

theorem cnt_step (V : List Int) (z : Int) {j : Nat} (hj : j < V.length) : ((V.take (j + 1)).filter fun i => i != z).length = ((V.take j).filter fun i => i != z).length + (if V.getD j 0 = z then 0 else 1) := by
  rw [List.take_succ_eq_append_getElem hj, List.filter_append, List.length_append, show V.getD j 0 = V[j] by rw [List.getD_eq_getElem?_getD, List.getElem?_eq_getElem hj]; rfl]
  congr 1
  by_cases h : V[j] = z
  · rw [if_pos h, List.filter_cons_of_neg (by simp [h])]; rfl
  · rw [if_neg h, List.filter_cons_of_pos (by simp [h])]; rfl
set_option maxRecDepth 100000 in
set_option maxHeartbeats 8000000 in
theorem OrderPinned_walk (A : Option Addr) (n c : Nat) (L : List Item) (at0 inn bud : Int) (w : World) (hE : Its w A n c L) (ha0 : (Lit.int .u8 at0).wf = true) (hi0 : (Lit.int .u16 inn).wf = true) (hb0 : (Lit.int .u16 bud).wf = true) :
    Calls Try.prog 7 #[.slice A n c, .int .u8 at0, .int .u16 inn, .int .u16 bud] w (SayB w true) := by
  have ha : 0 ≤ at0 ∧ at0 < 256 := by simp [Lit.wf, IntKind.min, IntKind.max, IntKind.bits, IntKind.signed] at ha0; omega
  have hi : 0 ≤ inn ∧ inn < 65536 := by simp [Lit.wf, IntKind.min, IntKind.max, IntKind.bits, IntKind.signed] at hi0; omega
  have hb : 0 ≤ bud ∧ bud < 65536 := by simp [Lit.wf, IntKind.min, IntKind.max, IntKind.bits, IntKind.signed] at hb0; omega
  have HE := Lib.hid hE
  have HL := Lib.hid hE.len
  have hle := hE.le
  have hsm := hE.small
  clear hE ha0 hi0 hb0
  go_enter Try.func7, Try.ntmps7
  go_wp2_with fail
  refine (head_any w).mono ?_
  rintro r W1 ⟨rfl, hb1⟩
  have B1 := Lib.hid hb1
  have HL1 := Lib.hid (HE.out.below hb1)
  clear hb1
  by_cases h0 : n = 0
  · have hd : ((n : Int) == 0) = true := by simpa using h0
    have hd' : decide ((n : Int) = 0) = true := decide_eq_true (by omega)
    clear h0
    go_wp2
    go_ret
    exact ⟨rfl, B1.out⟩
  have hd : ((n : Int) == 0) = false := by rw [beq_eq_false_iff_ne]; omega
  have hd' : decide ((n : Int) = 0) = false := decide_eq_false (by omega)
  by_cases h3 : 200 < n
  · have hk3 : 200 < (n : Int) := by omega
    go_wp2
    go_ret
    exact ⟨rfl, B1.out⟩
  have hk3 : ¬ 200 < (n : Int) := by omega
  go_wp2_with fail
  refine (numbered_any A n c L W1 HL1.out (by omega)).mono ?_
  rintro r W2 ⟨v2, rfl, hown2, hb2⟩
  have B2 := Lib.hid (below_trans B1.out hb2 B1.out.size)
  obtain ⟨g, c3, rfl⟩ : ∃ g c3, v2 = sl g n c3 := by
    rcases own_cases hown2 with ⟨_, e, _⟩ | h
    · exact absurd e h0
    · exact h
  have hnp : (0 : Int) < n := by omega
  obtain ⟨kk, hkk⟩ : ∃ kk : Nat, at0 % (n : Int) = kk := ⟨(at0 % (n : Int)).toNat, (Int.toNat_of_nonneg (Int.emod_nonneg _ (by omega))).symm⟩
  have hkx : kk < n := by have := Int.emod_lt_of_pos at0 hnp; omega
  have hkM : kk < (numL 0 L).length := by rw [numL_length, HL.out]; exact hkx
  obtain ⟨hp1, hp2⟩ := pin_law L inn bud hkM
  obtain ⟨M, hM⟩ : ∃ M, M = numL 0 L := ⟨_, rfl⟩
  rw [← hM] at hown2 hp1 hp2 hkM
  obtain ⟨y, hy⟩ : ∃ y, y = nth M kk := ⟨_, rfl⟩
  rw [← hy] at hp1 hp2
  obtain ⟨M2, hM2⟩ : ∃ M2, M2 = M.set kk (pinIt y) := ⟨_, rfl⟩
  rw [← hM2] at hp1 hp2
  have HY := Lib.hid hy
  have HM2 := Lib.hid hM2
  have HKM := Lib.hid hkM
  obtain ⟨A0, c0, e0, hits, _⟩ := hown2.its
  cases e0
  have OW2 := Lib.hid hown2
  have h3a := hits.le
  have h3b := hits.small
  obtain ⟨V1, hV1⟩ : ∃ z, z = vicL M inn bud := ⟨_, rfl⟩
  obtain ⟨V2, hV2⟩ : ∃ z, z = vicL M2 inn bud := ⟨_, rfl⟩
  obtain ⟨ok1, hok1⟩ : ∃ z, z = vicOk M inn bud := ⟨_, rfl⟩
  obtain ⟨ok2, hok2⟩ : ∃ z, z = vicOk M2 inn bud := ⟨_, rfl⟩
  have HV1 := Lib.hid (victims_any _ n c3 M inn bud W2 hits (by omega))
  have HV2 := Lib.hid (fun A c => victims_any A n c M2 inn bud)
  unfold VicPost at HV1 HV2
  rw [← hok1, ← hV1] at HV1
  rw [← hok2, ← hV2] at HV2
  rw [← hV2] at hp1
  rw [← hok2, ← hV1, ← hV2] at hp2
  have HP1 := Lib.hid hp1
  have HP2 := Lib.hid hp2
  have HG := Lib.hid hown2.lt
  have HB12 := Lib.hid B1.out.size
  clear hown2 hb2 hM hits hok1 hok2 hV1 hV2 hp1 hp2 hy hM2 hkM
  go_wp2_with fail
  refine HV1.out.mono ?_
  rintro r W3 ⟨v3, rfl, ho3, hb3⟩
  obtain ⟨A4, c4, rfl, _, _⟩ := ho3.rd
  have O3 := Lib.hid ho3
  have OW3 := Lib.hid (OW2.out.below hb3)
  have B3 := Lib.hid (below_trans B2.out hb3 B2.out.size)
  have hat := OW3.out.at HKM.out
  have cc : W3.cell? ⟨g, kk * 5 + 4, none⟩ = some (.bool M[kk].pin) := hat 4 (by rw [Item.cells_length]; decide)
  obtain ⟨pp, hpp⟩ : ∃ p, p = M[kk].pin := ⟨_, rfl⟩
  rw [← hpp] at cc
  have ff : W3.frozen? ⟨g, kk * 5 + 4, none⟩ = false := (OW3.out.there hkx 4 (by decide)).2
  clear ho3 hb3 hat hpp
  go_upto_region 8 with fail
  obtain ⟨W5, hW5⟩ : ∃ W, W = W3.setCell ⟨g, kk * 5 + 4, none⟩ (.bool true) := ⟨_, rfl⟩
  rw [← hW5]
  have g5 : W3.grownBy W5 (some g) := by rw [hW5]; exact grown_set _ _ _ _
  have OW5 : Hid (OwnI W5 W1.heap.size (sl g n c3) n M2) := Lib.hid (by rw [hW5, HM2.out]; exact OW3.out.put1 hkx (by decide) _ _ (by rw [HY.out]; rfl))
  have O5 : Hid (Own W5 .i64 2 W2.heap.size (.slice A4 V1.length c4) V1.length V1) := Lib.hid (O3.out.kept g5 (.inr (fun e => by
    have h1 := (World.ownsRow.lt O3.out g e).1
    have h2 := HG.out.2
    omega)))
  have B5 := Lib.hid (below_grown B3.out g5 B3.out.size (fun j hj => by cases hj; exact Nat.le_trans HB12.out HG.out.1))
  clear hW5 g5 cc ff
  obtain ⟨A6, c6, e6, hits5, _⟩ := OW5.out.its
  cases e6
  go_wp2_with fail
  refine (HV2.out _ c3 W5 hits5 (by omega)).mono ?_
  rintro r W6 ⟨v6, rfl, ho6, hb6⟩
  obtain ⟨A7, c7, rfl, hr7, _⟩ := ho6.rd
  have R7 := Lib.hid hr7
  have h7a := hr7.le
  have h7b := hr7.small
  obtain ⟨A8, c8, e8, hr8, _⟩ := (O5.out.below hb6).rd
  cases e8
  have R8 := Lib.hid hr8
  have h8a := hr8.le
  have h8b := hr8.small
  have OW6 := Lib.hid (OW5.out.below hb6)
  have B6 := Lib.hid (below_trans B5.out hb6 B5.out.size)
  obtain ⟨z, hz⟩ : ∃ z, z = y.id := ⟨_, rfl⟩
  rw [← hz] at HP1 HP2
  have CID : Hid (∀ W, Below W6.heap.size W6 W → W.cell? ⟨g, kk * 5, none⟩ = some (.int .i64 z)) := Lib.hid (fun W hbW => by
    have hk2 : kk < M2.length := by rw [HM2.out, List.length_set]; exact HKM.out
    have hat := (OW6.out.below hbW).at hk2 0 (by rw [Item.cells_length]; decide)
    have e : M2[kk] = pinIt y := by simp [HM2.out]
    rw [hz]
    rw [e] at hat
    exact hat)
  obtain ⟨n1, hn1⟩ : ∃ m, m = V1.length := ⟨_, rfl⟩
  obtain ⟨n2, hn2⟩ : ∃ m, m = V2.length := ⟨_, rfl⟩
  have N1 := Lib.hid hn1
  have N2 := Lib.hid hn2
  rw [← hn1] at R8 h8a ⊢
  rw [← hn2] at R7 h7a ⊢
  have hn1b : n1 ≤ 9223372036854775807 := by omega
  clear ho6 hb6 hr7 hr8 hits5 hz hn1 hn2
  go_upto_block 0 with fail
  go_cut [16] from 19 to 74 (fun s16 wx => Below W6.heap.size W6 wx)
  case first =>
    go_wp2_with fail
    go_loopw [16] (fun s16 wr => ∃ j : Nat, j ≤ n2 ∧ s16 = .int .i64 j ∧ Below W6.heap.size W6 wr) (fun s16 _ => n2 - (intOf s16).toNat)
    case atStart => exact ⟨0, Nat.zero_le _, rfl, Below.refl _ _⟩
    case round =>
      obtain ⟨j, hj, rfl, hbj⟩ := hrel
      have BJ := Lib.hid hbj
      have hcid := CID.out wr hbj
      by_cases hlt : j < n2
      · obtain ⟨a1, rfl, hc1⟩ := (R7.out.below hbj).cell j hlt
        have hkn : (j : Int) < n2 := by omega
        have hkk2 : (kk : Int) < n := by omega
        obtain ⟨x, hx⟩ : ∃ x, x = V2.getD j 0 := ⟨_, rfl⟩
        rw [← hx] at hc1
        have hxz : x ≠ z := HP1.out x (by rw [hx, List.getD_eq_getElem?_getD, List.getElem?_eq_getElem (by rw [← N2.out]; exact hlt)]; exact List.getElem_mem _)
        have hd2 : (x == z) = false := by simpa using hxz
        have hd3 : decide (x = z) = false := decide_eq_false hxz
        clear hx hbj hxz
        go_wp2
        go_quiet (fail)
        go_wp2
        go_roundw
        case rel => exact ⟨j + 1, by omega, by go_num, below_drewN2 BJ.out _⟩
        case measure => simp [intOf]; omega
      · have hkn : ¬ (j : Int) < n2 := by omega
        clear hbj hcid
        go_wp2
        go_meet
        case rel => exact BJ.out
  case rest =>
    have BC := Lib.hid hcut
    clear hcut
    refine (‹∀ (a : Act) (w : World), Code.wp _ _ _ a w → _›) _ _ ?_
    go_wp2_with fail
    go_loopw [17, 18] (fun s17 s18 wr => ∃ j : Nat, j ≤ n1 ∧ s18 = .int .i64 j ∧ s17 = .int .i64 ((((V1.take j).filter fun i => i != z).length : Nat) : Int) ∧ Below W6.heap.size W6 wr) (fun _ s18 _ => n1 - (intOf s18).toNat)
    case atStart => exact ⟨0, Nat.zero_le _, rfl, rfl, BC.out⟩
    case round =>
      obtain ⟨j, hj, rfl, rfl, hbj⟩ := hrel
      have BJ := Lib.hid hbj
      have hcid := CID.out wr hbj
      obtain ⟨cn, hcn⟩ : ∃ m, m = ((V1.take j).filter fun i => i != z).length := ⟨_, rfl⟩
      have hcb : cn ≤ j := by rw [hcn]; exact Nat.le_trans (List.length_filter_le _ _) (by rw [List.length_take]; omega)
      have HCN := Lib.hid hcn
      rw [← hcn]
      clear hcn
      by_cases hlt : j < n1
      · obtain ⟨a1, rfl, hc1⟩ := (R8.out.below hbj).cell j hlt
        have hkn : (j : Int) < n1 := by omega
        have hkk2 : (kk : Int) < n := by omega
        have hst := cnt_step V1 z (j := j) (by rw [← N1.out]; exact hlt)
        rw [← HCN.out] at hst
        obtain ⟨x, hx⟩ : ∃ x, x = V1.getD j 0 := ⟨_, rfl⟩
        rw [← hx] at hc1 hst
        by_cases hxz : x = z
        · rw [if_pos hxz] at hst
          have HST := Lib.hid hst
          have hd2 : (x != z) = false := by simpa using hxz
          have hd3 : decide (x = z) = true := decide_eq_true hxz
          clear hx hbj hst
          have HXZ := Lib.hid hxz
          clear hxz
          go_wp2
          go_quiet (fail)
          go_wp2
          go_roundw
          case rel => exact ⟨j + 1, by omega, by go_num, by rw [HST.out]; rfl, below_drewN2 BJ.out _⟩
          case measure => simp [intOf]; omega
        · rw [if_neg hxz] at hst
          have HST := Lib.hid hst
          have hd2 : (x != z) = true := by simpa using hxz
          have hd3 : decide (x = z) = false := decide_eq_false hxz
          clear hx hbj hst
          have HXZ := Lib.hid hxz
          clear hxz
          go_wp2
          go_quiet (fail)
          go_wp2
          go_roundw
          case rel => exact ⟨j + 1, by omega, by go_num, by rw [HST.out]; push_cast; rfl, below_drewN2 BJ.out _⟩
          case measure => simp [intOf]; omega
      · have hkn : ¬ (j : Int) < n1 := by omega
        have hall : V1.take j = V1 := List.take_of_length_le (by rw [← N1.out]; omega)
        rw [hall] at HCN
        have BF := Lib.hid (below_trans B6.out hbj B6.out.size)
        clear hbj hcid hall
        cases ok2 with
        | false =>
          go_wp2
          go_ret
          exact ⟨rfl, BF.out⟩
        | true =>
          have hge : (cn : Int) ≤ n2 := by have := HP2.out rfl; rw [← HCN.out, ← N2.out] at this; omega
          go_wp2
          go_ret
          exact ⟨rfl, BF.out⟩
end Go.Proofs.Ytclfbjbbdfejkaa.Ord
