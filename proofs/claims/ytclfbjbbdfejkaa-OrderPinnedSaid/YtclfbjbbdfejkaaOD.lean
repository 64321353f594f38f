/- The merge, whole; the stable sort. -/
import Derived.Test.YtclfbjbbdfejkaaOC
namespace Go.Proofs.Ytclfbjbbdfejkaa.Ord
open Go.RowKit

theorem merges (base g N c : Nat) (hN : N ≤ 100000) : ∀ len, Merges base g N c len
  | 0 => fun p m b M w h1 h2 h3 => by omega
  | len + 1 => fun p m b M w h1 h2 h3 hb hO hs ht => by
    by_cases e1 : m = p + 1
    · subst e1
      exact mergeA_any base g N c p b M w hO h2 hb hN ht
    · by_cases e2 : b = m + 1
      · subst e2
        exact mergeB_any base g N c p m M w hO (by omega) hb hN hs
      · exact mergeC_any base g N c p m b M w hO (by omega) (by omega) hb hN hs ht fun p' m' b' M' w' q1 q2 q3 => merges base g N c hN len p' m' b' M' w' q1 q2 (by omega)
theorem merge_any (base g N c p m b : Nat) (L : List Item) (w : World) (hO : OwnI w base (sl g N c) N L) (h1 : p < m) (h2 : m < b) (hb : b ≤ N) (hN : N ≤ 100000) (hs : Srt p m L) (ht : Srt m b L) :
    Calls Try.prog 40 #[sl g N c, .int .i64 p, .int .i64 m, .int .i64 b, fcmp] w (Sorts w base g N c p b L) :=
  merges base g N c hN (b - p + 1) p m b L w h1 h2 (by omega) hb hO hs ht
/-- All stretches of s are in order; up to A; from A on. -/
def AllB (s N : Nat) (L : List Item) : Prop := ∀ p, s ∣ p → Srt p (min (p + s) N) L
def Done (s A : Nat) (L : List Item) : Prop := ∀ p, s ∣ p → p + s ≤ A → Srt p (p + s) L
def Blocks (s N A : Nat) (L : List Item) : Prop := ∀ p, s ∣ p → A ≤ p → Srt p (min (p + s) N) L
theorem tr_out {a b t : Nat} {L R : List Item} (h : Tr a b L R) (ho : t < a ∨ b ≤ t) : nth R t = nth L t := by
  by_cases hl : t < L.length
  · exact h.out t hl ho
  · unfold nth; rw [List.getD_eq_getElem?_getD, List.getD_eq_getElem?_getD, List.getElem?_eq_none (by rw [h.len]; omega), List.getElem?_eq_none (by omega)]
theorem dvd_step {s p A : Nat} (hp : s ∣ p) (hA : s ∣ A) (h : p < A) : p + s ≤ A := by
  have := Nat.le_of_dvd (by omega) (Nat.dvd_sub hA hp)
  omega
theorem done_zero (s : Nat) (hs : 0 < s) (L : List Item) : Done s 0 L := fun p _ h => by omega
theorem done_more {s A : Nat} {L R : List Item} (h : Done s A L) (hA : s ∣ A) (t : Tr A (A + s) L R) (hs : Srt A (A + s) R) : Done s (A + s) R := by
  intro p hp hl
  by_cases e : p = A
  · subst e; exact hs
  · have h2 := dvd_step hp hA (by omega)
    exact srt_keep (h p hp h2) fun q q1 q2 => tr_out t (by omega)
theorem blocks_more {s N A B : Nat} {L R : List Item} (h : Blocks s N A L) (t : Tr A B L R) (hB : A ≤ B) : Blocks s N B R :=
  fun p hp hl => srt_keep (h p hp (by omega)) fun q q1 q2 => tr_out t (by omega)
theorem all_of_done {s N A : Nat} {L R : List Item} (h : Done s A L) (hA : s ∣ A) (hN : A ≤ N) (hl : N < A + s) (t : Tr A N L R) (hs : Srt A N R) : AllB s N R := by
  intro p hp
  rcases Nat.lt_trichotomy p A with h1 | h1 | h1
  · have h2 := dvd_step hp hA h1
    rw [Nat.min_eq_left (by omega)]
    exact srt_keep (h p hp h2) fun q q1 q2 => tr_out t (by omega)
  · subst h1
    rw [Nat.min_eq_right (by omega)]; exact hs
  · have h2 := dvd_step hA hp h1
    intro i j i1 _ j1
    omega
set_option maxRecDepth 100000 in
set_option maxHeartbeats 8000000 in
theorem stable_any (base g N c : Nat) (L : List Item) (w : World) (hO : OwnI w base (sl g N c) N L) (hN : N ≤ 10000) :
    Calls Try.prog 37 #[sl g N c, .int .i64 N, fcmp] w (Sorts w base g N c 0 N L) := by
  have HO := Lib.hid hO
  have HL := Lib.hid hO.len
  clear hO
  have hN2 : N ≤ 100000 := by omega
  go_enter Try.func37, Try.ntmps37
  go_wp2
  go_loopw [7, 8] (fun s t wr => ∃ A : Nat, ∃ M, s = .int .i64 A ∧ t = .int .i64 (A + 20 : Nat) ∧ A ≤ N ∧ 20 ∣ A ∧ OwnI wr base (sl g N c) N M ∧ w.grownBy wr (some g) ∧ Tr 0 N L M ∧ Done 20 A M) (fun s _ _ => N - (intOf s).toNat)
  case atStart => exact ⟨0, L, rfl, rfl, Nat.zero_le _, ⟨0, rfl⟩, HO.out, grown_refl _ _, Tr.refl _ _ _, done_zero _ (by decide) _⟩
  case round =>
    obtain ⟨A, M, rfl, rfl, hA, hdv, hown, hgr, htr, hdn⟩ := hrel
    have OW := Lib.hid hown
    have GR := Lib.hid hgr
    have TR := Lib.hid htr
    have DN := Lib.hid hdn
    have DV := Lib.hid hdv
    clear hown hgr htr hdn hdv
    by_cases hlt : A + 20 ≤ N
    · have hkn : ((A + 20 : Nat) : Int) ≤ N := by omega
      go_wp2_with fail
      refine (insertion_any base g N c A (A + 20) M _ OW.out (by omega) hlt hN2).mono ?_
      rintro r W1 ⟨M1, ⟨rfl, hown1, hgr1⟩, htr1, hsr1⟩
      have OW1 := Lib.hid hown1
      have GR1 := Lib.hid (grown_trans GR.out hgr1)
      have TR1 := Lib.hid (TR.out.trans (htr1.mono (Nat.zero_le _) hlt))
      have DN1 := Lib.hid (done_more DN.out DV.out htr1 hsr1)
      clear hown1 hgr1 htr1 hsr1
      go_wp2
      go_roundw
      case rel => exact ⟨A + 20, M1, by go_num, by go_num, hlt, (Nat.dvd_add DV.out ⟨1, rfl⟩), OW1.out, GR1.out, TR1.out, DN1.out⟩
      case measure => simp [intOf]; omega
    · have hkn : ¬ ((A + 20 : Nat) : Int) ≤ N := by omega
      go_wp2_with fail
      refine (insertion_any base g N c A N M _ OW.out hA (Nat.le_refl _) hN2).mono ?_
      rintro r W1 ⟨M1, ⟨rfl, hown1, hgr1⟩, htr1, hsr1⟩
      have OW1 := Lib.hid hown1
      have GR1 := Lib.hid (grown_trans GR.out hgr1)
      have TR1 := Lib.hid (TR.out.trans (htr1.mono (Nat.zero_le _) (Nat.le_refl _)))
      have AL1 := Lib.hid (all_of_done DN.out DV.out hA (by omega) htr1 hsr1)
      clear hown1 hgr1 htr1 hsr1
      go_wp2_with fail
      go_loopw [6] (fun u wr => ∃ s : Nat, ∃ M, u = .int .i64 s ∧ 20 ≤ s ∧ s ≤ 2 * N + 20 ∧ OwnI wr base (sl g N c) N M ∧ w.grownBy wr (some g) ∧ Tr 0 N L M ∧ AllB s N M) (fun u _ => 2 * N + 20 - (intOf u).toNat)
      case atStart => exact ⟨20, M1, rfl, Nat.le_refl _, by omega, OW1.out, GR1.out, TR1.out, AL1.out⟩
      case round =>
        obtain ⟨s, M2, rfl, hs1, hs2, hown, hgr, htr, hal⟩ := hrel
        have OW2 := Lib.hid hown
        have GR2 := Lib.hid hgr
        have TR2 := Lib.hid htr
        have AL2 := Lib.hid hal
        clear hown hgr htr hal
        by_cases hsN : s < N
        · have hsk : (s : Int) < N := by omega
          go_wp2
          go_loopw [7, 8] (fun u v wr => ∃ A B : Nat, ∃ M, u = .int .i64 A ∧ v = .int .i64 B ∧ B = A + 2 * s ∧ A ≤ N ∧ 2 * s ∣ A ∧ OwnI wr base (sl g N c) N M ∧ w.grownBy wr (some g) ∧ Tr 0 N L M ∧ Done (2 * s) A M ∧ Blocks s N A M) (fun u _ _ => N - (intOf u).toNat)
          case atStart => exact ⟨0, 2 * s, M2, rfl, by go_num, by omega, Nat.zero_le _, ⟨0, rfl⟩, OW2.out, GR2.out, TR2.out, done_zero _ (by omega) _, fun p hp _ => AL2.out p hp⟩
          case round =>
            obtain ⟨A, B, M, rfl, rfl, hB, hA, hdv, hown, hgr, htr, hdn, hbl⟩ := hrel
            have OW := Lib.hid hown
            have GR := Lib.hid hgr
            have TR := Lib.hid htr
            have DN := Lib.hid hdn
            have DV := Lib.hid hdv
            have BL := Lib.hid hbl
            have HB := Lib.hid hB
            obtain ⟨C, hC⟩ : ∃ C, C = A + s := ⟨_, rfl⟩
            have HC := Lib.hid hC
            have EC := Lib.hid (show (A : Int) + s = C by omega)
            have DS : s ∣ A := Nat.dvd_trans ⟨2, Nat.mul_comm 2 s⟩ hdv
            clear hown hgr htr hdn hdv hbl
            by_cases hlt2 : B ≤ N
            · have hkn2 : (B : Int) ≤ N := by omega
              have s1 := BL.out A DS (Nat.le_refl _)
              rw [Nat.min_eq_left (by omega), ← hC] at s1
              have s2 := BL.out (A + s) (Nat.dvd_add DS ⟨1, (Nat.mul_one s).symm⟩) (by omega)
              rw [Nat.min_eq_left (by omega), show A + s + s = B by omega, ← hC] at s2
              have hS := Lib.hid (merge_any base g N c A C B M wr OW.out (by omega) (by omega) hlt2 hN2 s1 s2)
              clear s1 s2 hB hC
              go_wp2_with fail
              rw [EC.out]
              refine hS.out.mono ?_
              rintro r W3 ⟨M3, ⟨rfl, hown3, hgr3⟩, htr3, hsr3⟩
              have OW3 := Lib.hid hown3
              have GR3 := Lib.hid (grown_trans GR.out hgr3)
              have TR3 := Lib.hid (TR.out.trans (htr3.mono (Nat.zero_le _) hlt2))
              have BL3 := Lib.hid (blocks_more BL.out htr3 (by have := HB.out; omega))
              rw [HB.out] at htr3 hsr3
              have DN3 := Lib.hid (done_more DN.out DV.out htr3 hsr3)
              have DV3 := Lib.hid (Nat.dvd_add DV.out (Nat.dvd_refl (2 * s)))
              rw [← HB.out] at DN3 DV3
              clear hown3 hgr3 htr3 hsr3
              go_wp2
              go_roundw
              case rel => exact ⟨B, B + 2 * s, M3, rfl, by go_num, rfl, hlt2, DV3.out, OW3.out, GR3.out, TR3.out, DN3.out, BL3.out⟩
              case measure =>
                have := HB.out
                simp [intOf]; omega
            · have hkn2 : ¬ (B : Int) ≤ N := by omega
              have s1 := BL.out A DS (Nat.le_refl _)
              have hNl : N < A + 2 * s := by omega
              by_cases hCN : C < N
              · have hCk : (C : Int) < N := by omega
                rw [Nat.min_eq_left (by omega), ← hC] at s1
                have s2 := BL.out (A + s) (Nat.dvd_add DS ⟨1, (Nat.mul_one s).symm⟩) (by omega)
                rw [Nat.min_eq_right (by omega), ← hC] at s2
                have hS := Lib.hid (merge_any base g N c A C N M wr OW.out (by omega) hCN (Nat.le_refl _) hN2 s1 s2)
                clear s1 s2 hB hC
                go_upto_if 54 with fail
                rw [EC.out]
                go_wp2_with fail
                refine hS.out.mono ?_
                rintro r W3 ⟨M3, ⟨rfl, hown3, hgr3⟩, htr3, hsr3⟩
                have OW3 := Lib.hid hown3
                have GR3 := Lib.hid (grown_trans GR.out hgr3)
                have TR3 := Lib.hid (TR.out.trans (htr3.mono (Nat.zero_le _) (Nat.le_refl _)))
                have AL3 := Lib.hid (all_of_done DN.out DV.out hA hNl htr3 hsr3)
                clear hown3 hgr3 htr3 hsr3
                go_wp2
                go_roundw
                case rel => exact ⟨2 * s, M3, by go_num, by omega, by omega, OW3.out, GR3.out, TR3.out, AL3.out⟩
                case measure => simp [intOf]; omega
              · have hCk : ¬ (A : Int) + s < N := by omega
                rw [Nat.min_eq_right (by omega)] at s1
                have AL3 := Lib.hid (all_of_done DN.out DV.out hA hNl (Tr.refl A N M) s1)
                clear s1 hB hC
                go_wp2
                go_roundw
                case rel => exact ⟨2 * s, M, by go_num, by omega, by omega, OW.out, GR.out, TR.out, AL3.out⟩
                case measure => simp [intOf]; omega
        · have hsk : ¬ (s : Int) < N := by omega
          go_wp2
          go_end0
          exact ⟨M2, ⟨rfl, OW2.out, GR2.out⟩, TR2.out, by have := AL2.out 0 ⟨0, rfl⟩; rwa [Nat.zero_add, Nat.min_eq_right (by omega)] at this⟩
end Go.Proofs.Ytclfbjbbdfejkaa.Ord
