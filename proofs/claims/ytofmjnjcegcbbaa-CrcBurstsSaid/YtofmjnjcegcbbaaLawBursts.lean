/- The walk of CrcBursts. -/
import Derived.Test.YtofmjnjcegcbbaaLawBack
import Derived.Test.YtofmjnjcegcbbaaMathBurst
import Derived.OwnWalk
import Derived.StillTailTactics
namespace Go.Proofs.Ytofmjnjcegcbbaa.Crc
open Go.RowKit CrcMath

theorem bit_on {b j : Nat} (h : b / 2 ^ j % 2 = 1) : (((b : Int) / 2 ^ j).tmod 2 == 1) = true := by
  have e : ((b : Int) / 2 ^ j).tmod 2 = ((b / 2 ^ j % 2 : Nat) : Int) := by
    rw [Int.tmod_eq_emod_of_nonneg (Int.ediv_nonneg (by omega) (Int.le_of_lt (Int.pow_pos (by decide))))]
    push_cast
    rfl
  rw [e, h]; rfl
theorem bit_off {b j : Nat} (h : ¬ b / 2 ^ j % 2 = 1) : (((b : Int) / 2 ^ j).tmod 2 == 1) = false := by
  have e : ((b : Int) / 2 ^ j).tmod 2 = ((b / 2 ^ j % 2 : Nat) : Int) := by
    rw [Int.tmod_eq_emod_of_nonneg (Int.ediv_nonneg (by omega) (Int.le_of_lt (Int.pow_pos (by decide))))]
    push_cast
    rfl
  have h2 : b / 2 ^ j % 2 = 0 := by rcases Nat.mod_two_eq_zero_or_one (b / 2 ^ j) with h1 | h1 <;> omega
  rw [e, h2]; rfl
theorem pow_mod256 {r : Nat} (h : r < 8) : (2 : Int) ^ r % 256 = ((2 ^ r : Nat) : Int) := by
  match r, h with
  | 0, _ => rfl
  | 1, _ => rfl
  | 2, _ => rfl
  | 3, _ => rfl
  | 4, _ => rfl
  | 5, _ => rfl
  | 6, _ => rfl
  | 7, _ => rfl
theorem inner_none {l : List Int} (h : opens l = false) : inner l = [] := by unfold inner; rw [h]; rfl
set_option maxHeartbeats 8000000 in
set_option maxRecDepth 100000 in
theorem CrcBursts_walk (A : Option Addr) (n c : Nat) (zs : List Int) (at0 b0 : Int) (w : World) (hz : IsRow .u8 w A n c zs) (_ : n * 1 ≤ 140737488351232) (ha : (Lit.int .u16 at0).wf = true) (hb0 : (Lit.int .u32 b0).wf = true) :
    Calls Try.prog 5 #[.slice A n c, .int .u16 at0, .int .u32 b0] w fun e w' => e = .returned (.bool true) ∧ Below w.heap.size w w' := by
  have hr := hz.rd
  have hb := hz.bytes
  obtain ⟨l, hl⟩ : ∃ l, l = zs.take n := ⟨_, rfl⟩
  rw [← hl] at hr hb
  have hs2 := bounds_u32 hb0
  have hn := Nat.le_trans hr.le hr.small
  obtain ⟨b, hbb, rfl⟩ : ∃ b : Nat, b < 2 ^ 32 ∧ b0 = (b : Int) := ⟨b0.toNat, by omega, by omega⟩
  have R := Lib.hid hr
  have Y := Lib.hid hb
  have HL := Lib.hid hr.len
  have BB := Lib.hid hbb
  clear hz hl hr hb hs2 hb0 hbb
  have ha2 : 0 ≤ at0 ∧ at0 < 65536 := by simp [Lit.wf, IntKind.min, IntKind.max, IntKind.bits, IntKind.signed] at ha; omega
  by_cases h9 : (9000 : Int) < n
  · have hd : decide ((9000 : Int) < n) = true := decide_eq_true h9
    have hd2 : decide (9000 < n) = true := decide_eq_true (by omega)
    go_enter Try.func5, Try.ntmps5
    go_wp2_with fail
    refine (head_any _).mono ?_
    rintro e w1 ⟨rfl, hb1⟩
    go_wp2
    go_ret
    exact ⟨rfl, hb1⟩
  · have hd : decide ((9000 : Int) < n) = false := decide_eq_false h9
    have hd2 : decide (9000 < n) = false := decide_eq_false (by omega)
    obtain ⟨k, hk⟩ : ∃ k : Nat, Int.tmod at0 (8 * ((n + 4 : Nat) : Int) - 31) = (k : Int) ∧ k + 32 ≤ 8 * (n + 4) := by
      rw [Int.tmod_eq_emod_of_nonneg ha2.1]
      have h1 := Int.emod_nonneg at0 (b := 8 * ((n + 4 : Nat) : Int) - 31) (by omega)
      have h2 := Int.emod_lt_of_pos at0 (b := 8 * ((n + 4 : Nat) : Int) - 31) (by omega)
      exact ⟨(at0 % (8 * ((n + 4 : Nat) : Int) - 31)).toNat, by omega, by omega⟩
    obtain ⟨hkm, hkn⟩ := hk
    go_enter Try.func5, Try.ntmps5
    go_wp2_with fail
    refine (head_any _).mono ?_
    rintro e w1 ⟨rfl, hb1⟩
    have B1 := Lib.hid hb1
    clear hb1
    go_wp2_with fail
    refine (seal_any A n c l _ (R.out.below B1.out) Y.out (by omega)).mono ?_
    rintro e w2 ⟨⟨v2, rfl, ho2⟩, hb2⟩
    obtain ⟨A2, c2, rfl, hr2, _⟩ := ho2.rd
    have B2 := Lib.hid (below_trans B1.out hb2 B1.out.size)
    have O2 := Lib.hid (Own.lower ho2 B1.out.size)
    obtain ⟨m, hm⟩ : ∃ m, m = n + 4 := ⟨_, rfl⟩
    rw [← hm] at O2 hkm hkn ⊢
    have hn4 : decide ((m : Int) < 4) = false := decide_eq_false (by omega)
    have hm8 : m ≤ 9004 := by omega
    have hm9 : 4 ≤ m := by omega
    have HM := Lib.hid hm
    clear hb2 hr2 ho2 hm
    go_wp2_with fail
    obtain ⟨g, hA, hgb⟩ := Own.slot O2.out (by omega)
    subst hA
    have HG := Lib.hid hgb
    clear hgb
    go_loopw [10] (fun i wr => ∃ j : Nat, j ≤ 32 ∧ i = .int .i64 j ∧ ∃ lk, Own wr .u8 5 w.heap.size (.slice (some ⟨g, 0, none⟩) m c2) m lk ∧ Bytes lk ∧ num lk = num (shut l) ^^^ (b % 2 ^ j) * 2 ^ k ∧ Below w.heap.size w wr) (fun i _ => 32 - (intOf i).toNat)
    case atStart => exact ⟨0, Nat.zero_le _, rfl, _, O2.out, shut_bytes Y.out, by simp [Nat.mod_one], B2.out⟩
    case round =>
      obtain ⟨j, hj, rfl, lk, ho, hyk, hnum, hbel⟩ := hrel
      have O := Lib.hid ho
      have X := Lib.hid hbel
      have YK := Lib.hid hyk
      have NU := Lib.hid hnum
      clear ho hbel hyk hnum
      by_cases hlt : j < 32
      · have ht := turn_succ b j k
        by_cases hbit : b / 2 ^ j % 2 = 1
        · rw [if_pos hbit] at ht
          have HT := Lib.hid ht
          clear ht
          have ht1 := bit_on hbit
          obtain ⟨p, hp, hp0, hp1, hp2⟩ : ∃ p : Nat, p = k + j ∧ IntKind.i64.wrap ((k : Int) + j) = (p : Int) ∧ Int.tdiv (p : Int) 8 = ((p / 8 : Nat) : Int) ∧ Int.tmod (p : Int) 8 = ((p % 8 : Nat) : Int) := ⟨k + j, rfl, by rw [IntKind.wrap_i64]; omega, by rw [Int.tdiv_eq_ediv_of_nonneg (by omega)]; omega, by rw [Int.tmod_eq_emod_of_nonneg (by omega)]; omega⟩
          have hc := Own.cell O.out (p / 8) (by omega)
          obtain ⟨y0, hy0⟩ : ∃ y, y = lk.getD (p / 8) 0 := ⟨_, rfl⟩
          rw [← hy0] at hc
          have V0 := Lib.hid hy0
          have HP := Lib.hid hp
          have b1 : ((p / 8 : Nat) : Int) < m := by omega
          have b2 : (0 : Int) ≤ ((p / 8 : Nat) : Int) := by omega
          obtain ⟨q, hq⟩ : ∃ q, q = p / 8 := ⟨_, rfl⟩
          obtain ⟨r, hr⟩ : ∃ r, r = p % 8 := ⟨_, rfl⟩
          rw [← hq] at hp1 hc b1 b2 V0
          rw [← hr] at hp2
          have HQ := Lib.hid hq
          have HR := Lib.hid hr
          have br : r < 8 := by omega
          have hq0 : IntKind.i64.wrap (q : Int) = q := by rw [IntKind.wrap_i64]; omega
          have hr0 : IntKind.i64.wrap (r : Int) = r := by rw [IntKind.wrap_i64]; omega
          have hpn : 0 ≤ (p : Int) := by omega
          clear hy0 hp hq hr
          go_wp2_with fail
          go_still_tail 19, (by kernel_rfl)
          change wpList _ _ _ _ _ (wr.drewN 1)
          obtain ⟨W, hW⟩ : ∃ W, W = wr.drewN 1 := ⟨_, rfl⟩
          rw [← hW]
          have OW : Own W .u8 5 w.heap.size (.slice (some ⟨g, 0, none⟩) m c2) m lk := by rw [hW]; exact O.out
          have XW : Below w.heap.size w W := by rw [hW]; exact below_drewN2 X.out 1
          clear hc hW
          have hc := Own.cell OW q (by omega)
          have hf := World.ownsRow.frozenAt OW q
          obtain ⟨y1, hy1⟩ : ∃ y, y = lk.getD q 0 := ⟨_, rfl⟩
          rw [← hy1] at hc
          clear hy1
          have O' := Lib.hid OW
          have X' := Lib.hid XW
          clear OW XW O X
          go_wp2
          go_roundw
          case rel =>
            have hsh : (2 : Int) ^ r % 256 = ((2 ^ (p % 8) : Nat) : Int) := by rw [HR.out]; exact pow_mod256 (Nat.mod_lt p (by decide))
            refine ⟨j + 1, by omega, by go_num, _, Own.store O'.out q _, ?_, ?_, X'.out.setCell HG.out _⟩
            · rw [hsh, V0.out, HQ.out]
              exact flip_bytes YK.out
            · rw [hsh, V0.out, HQ.out, HT.out, ← Nat.xor_assoc, ← NU.out, ← HP.out]
              have hlen := O'.out.len
              have hpk := HP.out
              exact num_flip lk p YK.out (by rw [hlen]; omega)
          case measure => simp [intOf]; omega
        · rw [if_neg hbit, Nat.xor_zero] at ht
          have HT := Lib.hid ht
          clear ht
          have ht1 := bit_off hbit
          go_wp2
          go_roundw
          case rel => exact ⟨j + 1, by omega, by go_num, lk, O.out, YK.out, by rw [NU.out, HT.out], X.out⟩
          case measure => simp [intOf]; omega
      · have hj32 : j = 32 := by omega
        subst hj32
        have hnu := NU.out
        rw [Nat.mod_eq_of_lt BB.out] at hnu
        obtain ⟨A5, c5, e5, hr5, _⟩ := O.out.rd
        cases e5
        have R5 := Lib.hid hr5
        have hsl : (shut l).length = m := by rw [shut_length, HL.out, HM.out]
        by_cases hb0 : b = 0
        · subst hb0
          rw [Nat.zero_mul, Nat.xor_zero] at hnu
          have e := same_burst (by rw [O.out.len, hsl]) YK.out (shut_bytes Y.out) hnu
          subst e
          have HL5 := Lib.hid HL.out
          clear hr5 hnu hsl
          go_wp2_with fail
          refine (open_known _ m _ _ true l _ R5.out YK.out (by omega) (opens_shut l) (inner_shut l)).mono ?_
          rintro e w5 ⟨⟨A5, c5, rfl, hr5⟩, hb5⟩
          rw [HL5.out] at hr5 ⊢
          have X5 := Lib.hid (below_trans X.out hb5 X.out.size)
          have u1 := (R.out.below X5.out).text (P := Try.prog) Try.underlying23 Try.underlying5 Try.underlying9
          have u2 := hr5.text (P := Try.prog) Try.underlying23 Try.underlying5 Try.underlying9
          clear hr5 hb5
          go_wp2
          go_ret
          exact ⟨rfl, X5.out⟩
        · have e := opens_burst O.out.len hsl YK.out (shut_bytes Y.out) BB.out hb0 hkn hnu
          have hbz : decide ((b : Int) = 0) = false := decide_eq_false (by omega)
          have hbz2 : ((b : Int) == 0) = false := by rw [beq_eq_false_iff_ne]; omega
          have HI := Lib.hid (inner_none e)
          have HE := Lib.hid e
          clear hr5 hnu hsl e
          go_wp2_with fail
          refine (open_known _ m _ lk false [] _ R5.out YK.out (by omega) HE.out HI.out).mono ?_
          rintro e w5 ⟨⟨A5, c5, rfl, hr5⟩, hb5⟩
          have X5 := Lib.hid (below_trans X.out hb5 X.out.size)
          clear hr5 hb5
          go_wp2
          go_ret
          exact ⟨rfl, X5.out⟩
end Go.Proofs.Ytofmjnjcegcbbaa.Crc
