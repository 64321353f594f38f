/- OrderRises. -/
import Derived.Test.YtclfbjbbdfejkaaOW
namespace Go.Proofs.Ytclfbjbbdfejkaa.Ord
open Go.RowKit

/-- More that is too much: those that went go still, and first. -/
theorem goingL_mono : ∀ (M : List Item) (o1 o2 : Int), o1 ≤ o2 → ∃ t, goingL M o2 = goingL M o1 ++ t
  | [], _, _, _ => ⟨[], rfl⟩
  | x :: r, o1, o2, h => by
    by_cases h1 : o1 ≤ 0
    · exact ⟨goingL (x :: r) o2, by rw [goingL_none _ h1]; rfl⟩
    · obtain ⟨t, ht⟩ := goingL_mono r (o1 - x.cost) (o2 - x.cost) (by omega)
      refine ⟨t, ?_⟩
      unfold goingL
      rw [if_neg h1, if_neg (by omega), ht]
      rfl
theorem vicOk_mono {L : List Item} {a m b : Int} (ha : 0 ≤ a ∧ a < 65536) (hm : 0 ≤ m ∧ m < 65536) (h : vicOk L (a + m) b = true) : vicOk L a b = true := by
  unfold vicOk wth at *
  simp only [Bool.and_eq_true, decide_eq_true_eq] at *
  omega
theorem vicL_mono {L : List Item} {a m b : Int} (ha : 0 ≤ a ∧ a < 65536) (hm : 0 ≤ m ∧ m < 65536) (h : vicOk L (a + m) b = true) : ∃ t, vicL L (a + m) b = vicL L a b ++ t := by
  unfold vicL
  rw [if_pos h, if_pos (vicOk_mono ha hm h)]
  exact goingL_mono _ _ _ (by omega)
set_option maxRecDepth 100000 in
set_option maxHeartbeats 8000000 in
theorem OrderRises_walk (A : Option Addr) (n c : Nat) (L : List Item) (inn more bud : Int) (w : World) (hE : Its w A n c L) (hi0 : (Lit.int .u16 inn).wf = true) (hm0 : (Lit.int .u16 more).wf = true) (hb0 : (Lit.int .u16 bud).wf = true) :
    Calls Try.prog 6 #[.slice A n c, .int .u16 inn, .int .u16 more, .int .u16 bud] w (SayB w true) := by
  have hi : 0 ≤ inn ∧ inn < 65536 := by simp [Lit.wf, IntKind.min, IntKind.max, IntKind.bits, IntKind.signed] at hi0; omega
  have hm : 0 ≤ more ∧ more < 65536 := by simp [Lit.wf, IntKind.min, IntKind.max, IntKind.bits, IntKind.signed] at hm0; omega
  have hb : 0 ≤ bud ∧ bud < 65536 := by simp [Lit.wf, IntKind.min, IntKind.max, IntKind.bits, IntKind.signed] at hb0; omega
  have HE := Lib.hid hE
  have HL := Lib.hid hE.len
  have hle := hE.le
  have hsm := hE.small
  clear hE hi0 hm0 hb0
  go_enter Try.func6, Try.ntmps6
  go_wp2_with fail
  refine (head_any w).mono ?_
  rintro r W1 ⟨rfl, hb1⟩
  have B1 := Lib.hid hb1
  have HL1 := Lib.hid (HE.out.below hb1)
  clear hb1
  by_cases h3 : 200 < n
  · have hk3 : 200 < (n : Int) := by omega
    go_wp2
    go_ret
    exact ⟨rfl, B1.out⟩
  have hk3 : ¬ 200 < (n : Int) := by omega
  go_wp2_with fail
  refine (numbered_any A n c L W1 HL1.out (by omega)).mono ?_
  rintro r W2 ⟨v2, rfl, hown2, hb2⟩
  have B2 := Lib.hid (below_trans B1.out hb2 B1.out.size)
  obtain ⟨M, hM⟩ : ∃ M, M = numL 0 L := ⟨_, rfl⟩
  rw [← hM] at hown2
  obtain ⟨A3, c3, rfl, hits, _⟩ := hown2.its
  have HI2 := Lib.hid hits
  have h3a := hits.le
  have h3b := hits.small
  obtain ⟨ok1, hok1⟩ : ∃ z, z = vicOk M inn bud := ⟨_, rfl⟩
  obtain ⟨ok2, hok2⟩ : ∃ z, z = vicOk M (inn + more) bud := ⟨_, rfl⟩
  obtain ⟨V1, hV1⟩ : ∃ z, z = vicL M inn bud := ⟨_, rfl⟩
  obtain ⟨V2, hV2⟩ : ∃ z, z = vicL M (inn + more) bud := ⟨_, rfl⟩
  have HOK : Hid (ok2 = true → ok1 = true ∧ ∃ t, V2 = V1 ++ t) := Lib.hid (fun h => by rw [hok2] at h; rw [hok1, hV1, hV2]; exact ⟨vicOk_mono hi hm h, vicL_mono hi hm h⟩)
  have HV1 := Lib.hid (victims_any A3 n c3 M inn bud W2 hits (by omega))
  have HV2 := Lib.hid (victims_any A3 n c3 M (inn + more) bud)
  unfold VicPost at HV1 HV2
  rw [← hok1, ← hV1] at HV1
  rw [← hok2, ← hV2] at HV2
  clear hown2 hb2 hM hits hok1 hok2 hV1 hV2
  go_wp2_with fail
  refine HV1.out.mono ?_
  rintro r W3 ⟨v3, rfl, ho3, hb3⟩
  obtain ⟨A4, c4, rfl, hr3, _⟩ := ho3.rd
  have R3 := Lib.hid hr3
  have HI3 := Lib.hid (HI2.out.below hb3)
  have B3 := Lib.hid (below_trans B2.out hb3 B2.out.size)
  obtain ⟨im, him⟩ : ∃ z, z = inn + more := ⟨_, rfl⟩
  have HIM := Lib.hid him
  rw [← him] at HV2
  clear ho3 hr3 hb3 him
  go_wp2_with fail
  rw [← HIM.out]
  refine (HV2.out W3 HI3.out (by omega)).mono ?_
  rintro r W4 ⟨v4, rfl, ho4, hb4⟩
  obtain ⟨A5, c5, rfl, hr4, _⟩ := ho4.rd
  have R4 := Lib.hid hr4
  have R34 := Lib.hid (R3.out.below hb4)
  have B4 := Lib.hid (below_trans B3.out hb4 B3.out.size)
  have h5a := hr4.le
  have h5b := hr4.small
  have h4a := R34.out.le
  have h4b := R34.out.small
  clear ho4 hr4 hb4
  cases ok2 with
  | false =>
    clear HOK
    go_wp2
    go_ret
    exact ⟨rfl, B4.out⟩
  | true =>
    obtain ⟨rfl, t, rfl⟩ := HOK.out rfl
    have HS := Lib.hid (sameIds_any A4 A5 V1.length c4 V1.length c5 V1 V1 W4 R34.out (by have h := R4.out.take V1.length (by simp); simpa using h))
    have HSM : Hid (same V1 V1 = true) := Lib.hid (decide_eq_true rfl)
    rw [HSM.out] at HS
    have e1 : (V1 ++ t).length = V1.length + t.length := by simp
    rw [e1] at h5a ⊢
    obtain ⟨n1, hn1⟩ : ∃ z, z = V1.length := ⟨_, rfl⟩
    obtain ⟨n2, hn2⟩ : ∃ z, z = t.length := ⟨_, rfl⟩
    rw [← hn1, ← hn2] at h5a ⊢
    rw [← hn1] at h4a HS
    obtain ⟨n3, hn3⟩ : ∃ z, z = n1 + n2 := ⟨_, rfl⟩
    rw [← hn3] at h5a ⊢
    have hge : (n1 : Int) ≤ n3 := by omega
    have hgc : (n1 : Int) ≤ c5 := by omega
    clear e1 hn1 hn2 hn3
    go_wp2_with fail
    refine HS.out.mono ?_
    rintro r W5 ⟨rfl, hb5⟩
    have B5 := Lib.hid (below_trans B4.out hb5 B4.out.size)
    clear hb5
    go_wp2
    go_ret
    exact ⟨rfl, B5.out⟩
end Go.Proofs.Ytclfbjbbdfejkaa.Ord
