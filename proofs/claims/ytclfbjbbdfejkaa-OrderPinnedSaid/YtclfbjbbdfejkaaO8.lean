/- Two stretches, one behind the other, change their places. -/
import Derived.Test.YtclfbjbbdfejkaaOQ
namespace Go.Proofs.Ytclfbjbbdfejkaa.Ord
open Go.RowKit

set_option maxRecDepth 100000 in
set_option maxHeartbeats 4000000 in
theorem rotate_any (base g N c a m b : Nat) (L : List Item) (f : Value) (w : World) (hO : OwnI w base (sl g N c) N L) (ha : a < m) (hm : m < b) (hb : b ≤ N) (hN : N ≤ 100000) :
    Calls Try.prog 41 #[sl g N c, .int .i64 a, .int .i64 m, .int .i64 b, f] w (Turns w base g N c (rot a m b L)) := by
  have HO := Lib.hid hO
  have HL := Lib.hid hO.len
  clear hO
  obtain ⟨i0, hi0⟩ : ∃ i, i = m - a := ⟨_, rfl⟩
  obtain ⟨j0, hj0⟩ : ∃ j, j = b - m := ⟨_, rfl⟩
  obtain rfl : a = m - i0 := by omega
  obtain rfl : b = m + j0 := by omega
  have h1 : 1 ≤ i0 := by omega
  have h2 : 1 ≤ j0 := by omega
  have h3 : i0 ≤ m := by omega
  have e1 : ((m - i0 : Nat) : Int) = m - i0 := by omega
  have e2 : ((m + j0 : Nat) : Int) = m + j0 := by omega
  rw [e1, e2]
  clear hi0 hj0 ha hm e1 e2
  go_enter Try.func41, Try.ntmps41
  go_wp2
  go_loopw [10, 11] (fun s t wr => ∃ i j : Nat, ∃ M, s = .int .i64 i ∧ t = .int .i64 j ∧ 1 ≤ i ∧ i ≤ i0 ∧ 1 ≤ j ∧ j ≤ j0 ∧ OwnI wr base (sl g N c) N M ∧ w.grownBy wr (some g) ∧ rot (m - i) m (m + j) M = rot (m - i0) m (m + j0) L) (fun s t _ => (intOf s).toNat + (intOf t).toNat)
  case atStart => exact ⟨i0, j0, L, by go_num, by go_num, h1, Nat.le_refl _, h2, Nat.le_refl _, HO.out, grown_refl _ _, rfl⟩
  case round =>
    obtain ⟨i, j, M, rfl, rfl, hi1, hi2, hj1, hj2, hown, hgr, hrot⟩ := hrel
    have OW := Lib.hid hown
    have GR := Lib.hid hgr
    have RO := Lib.hid hrot
    have ML := Lib.hid hown.len
    clear hown hgr hrot
    have c1 : ((m - i : Nat) : Int) = m - i := by omega
    rcases Nat.lt_trichotomy i j with hlt | heq | hgt
    · have hd1 : ((i : Int) != j) = true := by simp; omega
      have hd2 : decide ((j : Int) < i) = false := decide_eq_false (by omega)
      have c2 : ((m + j - i : Nat) : Int) = m + j - i := by omega
      have hS := swapRange_any base g N c (m - i) (m + j - i) i M f wr OW.out (by omega) (by omega) hN
      rw [c1, c2] at hS
      have HS := Lib.hid hS
      clear hS c1 c2
      go_wp2_with fail
      refine HS.out.mono ?_
      rintro r w2 ⟨rfl, hown2, hgr2⟩
      have OW2 := Lib.hid hown2
      have GR2 := Lib.hid (grown_trans GR.out hgr2)
      clear hown2 hgr2
      go_wp2
      go_roundw
      case rel => exact ⟨i, j - i, _, by go_num, by go_num, hi1, hi2, by omega, by omega, OW2.out, GR2.out, by rw [rot_less M m i j hi1 hlt (by omega) (by rw [ML.out]; omega)]; exact RO.out⟩
      case measure => simp [intOf]; omega
    · subst heq
      have hd1 : ((i : Int) != i) = false := by simp
      have hS := swapRange_any base g N c (m - i) m i M f wr OW.out (by omega) (by omega) hN
      rw [swR_rot M m i (by omega) (by rw [ML.out]; omega), RO.out, c1] at hS
      have HS := Lib.hid hS
      clear hS c1
      go_wp2_with fail
      refine HS.out.mono ?_
      rintro r w2 ⟨rfl, hown2, hgr2⟩
      have OW2 := Lib.hid hown2
      have GR2 := Lib.hid (grown_trans GR.out hgr2)
      clear hown2 hgr2
      go_wp2
      go_end0
      exact ⟨rfl, OW2.out, GR2.out⟩
    · have hd1 : ((i : Int) != j) = true := by simp; omega
      have hd2 : decide ((j : Int) < i) = true := decide_eq_true (by omega)
      have hS := swapRange_any base g N c (m - i) m j M f wr OW.out (by omega) (by omega) hN
      rw [c1] at hS
      have HS := Lib.hid hS
      clear hS c1
      go_wp2_with fail
      refine HS.out.mono ?_
      rintro r w2 ⟨rfl, hown2, hgr2⟩
      have OW2 := Lib.hid hown2
      have GR2 := Lib.hid (grown_trans GR.out hgr2)
      clear hown2 hgr2
      go_wp2
      go_roundw
      case rel => exact ⟨i - j, j, _, by go_num, by go_num, by omega, by omega, hj1, hj2, OW2.out, GR2.out, by rw [rot_more M m i j hj1 hgt (by omega) (by rw [ML.out]; omega)]; exact RO.out⟩
      case measure => simp [intOf]; omega
end Go.Proofs.Ytclfbjbbdfejkaa.Ord
