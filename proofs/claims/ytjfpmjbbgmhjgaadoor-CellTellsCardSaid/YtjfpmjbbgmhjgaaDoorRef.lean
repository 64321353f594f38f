/- The document's sums: turntableref02.More, Of, Seal. -/
import Derived.Test.YtjfpmjbbgmhjgaaDoorPrims
namespace Go.Proofs.YtjfpmjbbgmhjgaaDoor.Crc
open Go.RowKit CrcMath

theorem fd_eq (x : BitVec 32) (b : Bool) : fd x b = (x >>> 1) ^^^ (if x.getLsbD 0 != b then poly else 0#32) := by
  unfold fd st
  rw [BitVec.ushiftRight_xor_distrib, BitVec.getLsbD_xor]
  cases b <;> cases h : x.getLsbD 0 <;> simp
theorem N_mod2 (x : BitVec 32) : N x % 2 = if x.getLsbD 0 then 1 else 0 := by
  unfold N BitVec.getLsbD
  rw [Nat.testBit_zero]
  rcases Nat.mod_two_eq_zero_or_one x.toNat with h | h <;> simp [h] <;> omega
theorem feed_succ (j y : Nat) (r : BitVec 32) : feed (j + 1) y r = fd (feed j y r) (y / 2 ^ j % 2 == 1) := by
  rw [feed_add]; rfl
/-- What stands behind i bits. -/
def rs (s : BitVec 32) (l : List Int) (i : Nat) : BitVec 32 := feed (i % 8) (l.getD (i / 8) 0).toNat (raw (~~~ s) (l.take (i / 8)))
theorem rs_succ (s : BitVec 32) (l : List Int) (hb : Bytes l) (i k j : Nat) (hk : i / 8 = k) (hj : i % 8 = j) (hl : k < l.length) : rs s l (i + 1) = fd (rs s l i) ((l.getD k 0).toNat / 2 ^ j % 2 == 1) := by
  have hj8 : j < 8 := by omega
  have hc : 0 ≤ l.getD k 0 ∧ l.getD k 0 < 256 := by
    rw [List.getD_eq_getElem?_getD, List.getElem?_eq_getElem hl]
    exact hb _ (List.getElem_mem _)
  unfold rs
  rw [hk, hj, ← feed_succ]
  by_cases h7 : j = 7
  · have e1 : (i + 1) / 8 = k + 1 := by omega
    have e2 : (i + 1) % 8 = 0 := by omega
    rw [e1, e2, h7]
    show raw (~~~ s) (l.take (k + 1)) = _
    rw [raw_snoc _ _ _ hl, ← sts_feed 8 _ _ (by decide) (by omega)]
    rfl
  · have e1 : (i + 1) / 8 = k := by omega
    have e2 : (i + 1) % 8 = j + 1 := by omega
    rw [e1, e2]
theorem rs_all (s : BitVec 32) (l : List Int) : rs s l (8 * l.length) = raw (~~~ s) l := by
  unfold rs
  have e1 : 8 * l.length / 8 = l.length := by omega
  have e2 : 8 * l.length % 8 = 0 := by omega
  rw [e1, e2, List.take_length]
  rfl

theorem half_go (x : BitVec 32) : (N x).tdiv 2 % 4294967296 = N (x >>> (1 : Nat)) := by
  obtain ⟨h0, h1⟩ := N_range x
  rw [← N_half, Int.tdiv_eq_ediv_of_nonneg h0]
  omega
theorem bit_go (B j : Nat) : ((B : Int) / 2 ^ j).tmod 2 = if (B / 2 ^ j % 2 == 1) then 1 else 0 := by
  have e : (B : Int) / 2 ^ j = ((B / 2 ^ j : Nat) : Int) := by simp
  rw [e]
  generalize B / 2 ^ j = q
  rw [Int.tmod_eq_emod_of_nonneg (by omega)]
  rcases Nat.mod_two_eq_zero_or_one q with h | h
  · rw [h, if_neg (by decide)]; omega
  · rw [h, if_pos (by decide)]; omega
set_option maxHeartbeats 1000000 in
set_option maxRecDepth 100000 in
theorem refmore_any (s : BitVec 32) (A : Option Addr) (n c : Nat) (l : List Int) (w : World) (hr : Rd w .u8 A n c l) (hbs : Bytes l) (hn : n ≤ 1000000) :
    Calls Tryd.prog 32 #[.int .u32 (N s), .slice A n c] w fun e w' => e = .returned (.int .u32 (N (more s l))) ∧ w = w' := by
  have hl := hr.len
  have HR := Lib.hid hr
  have HB := Lib.hid hbs
  have HL := Lib.hid hl
  clear hr hbs hl
  have es : IntKind.u32.signed = false := rfl
  have em : IntKind.u32.max = 4294967295 := by decide
  have en : bits .xor .u32 IntKind.u32.max (N s) = N (~~~ s) := by rw [em, N_not]
  have ew : ∀ y, bits .xor .u32 IntKind.u32.max (N y) = N (~~~ y) := fun y => by rw [em, N_not]
  have EW := Lib.hid ew
  clear em ew
  go_enter Tryd.func32, Tryd.ntmps32
  go_wp2
  clear en
  go_loop [5, 6] (fun r v => ∃ i : Nat, i ≤ 8 * n ∧ v = .int .i64 i ∧ r = .int .u32 (N (rs s l i))) (fun _ v => 8 * n - (intOf v).toNat)
  case atStart => exact ⟨0, Nat.zero_le _, rfl, by simp [rs, feed, raw]⟩
  case round =>
    obtain ⟨i, hi, rfl, rfl⟩ := hrel
    obtain ⟨x, hx⟩ : ∃ x, x = rs s l i := ⟨_, rfl⟩
    rw [← hx]
    have HX := Lib.hid hx
    clear hx
    have hx0 := (N_range x).1
    by_cases hin : i < 8 * n
    · obtain ⟨k, hk⟩ : ∃ k, i / 8 = k := ⟨_, rfl⟩
      obtain ⟨j, hj⟩ : ∃ j, i % 8 = j := ⟨_, rfl⟩
      have hj8 : j < 8 := by omega
      have hkn : k < n := by omega
      have hd : (i : Int) / 8 = (k : Int) := by omega
      have hm : (i : Int) % 8 = (j : Int) := by omega
      have hstep := rs_succ s l HB.out i k j hk hj (by rw [HL.out]; exact hkn)
      obtain ⟨ad, rfl, hcell⟩ := HR.out.cell k hkn
      obtain ⟨b, hb⟩ : ∃ b, b = l.getD k 0 := ⟨_, rfl⟩
      have hbr : 0 ≤ b ∧ b < 256 := by
        rw [hb, List.getD_eq_getElem?_getD, List.getElem?_eq_getElem (by rw [HL.out]; exact hkn)]
        exact HB.out _ (List.getElem_mem _)
      rw [← hb] at hcell hstep
      rw [← HX.out] at hstep
      obtain ⟨h0, h1⟩ := hbr
      have HS := Lib.hid hstep
      clear hstep hb hk hj
      obtain ⟨B, rfl⟩ := Int.eq_ofNat_of_zero_le h0
      have HD := Lib.hid (half_go x)
      obtain ⟨bb, hbb⟩ : ∃ bb, bb = (B / 2 ^ j % 2 == 1) := ⟨_, rfl⟩
      obtain ⟨xb, hxb⟩ : ∃ xb, xb = x.getLsbD 0 := ⟨_, rfl⟩
      have hmod : (N x).tmod 2 = if xb then 1 else 0 := by rw [hxb, ← N_mod2, Int.tmod_eq_emod_of_nonneg hx0]
      have hmod2 : N x % 2 = if xb then 1 else 0 := by rw [hxb, ← N_mod2]
      have hbit : ((B : Int) / 2 ^ j).tmod 2 = if bb then 1 else 0 := by rw [hbb]; exact bit_go B j
      have hstep2 : rs s l (i + 1) = (x >>> 1) ^^^ (if xb != bb then poly else 0#32) := by rw [HS.out, hxb, hbb]; exact fd_eq x _
      have HT := Lib.hid hstep2
      clear hstep2 hbb hxb
      cases xb <;> cases bb <;> simp only [Bool.false_eq_true, if_false, if_true] at hmod hmod2 hbit
      all_goals
        go_wp2
        go_round
        case rel => exact ⟨i + 1, by omega, by go_num, by rw [HT.out]; first | (rw [HD.out, N_poly]; rfl) | (rw [HD.out]; simp)⟩
        case measure => simp [intOf]; omega
    · have ei : i = 8 * n := by omega
      have ex : x = raw (~~~ s) l := by rw [HX.out, ei, ← HL.out]; exact rs_all s l
      have HE := Lib.hid ex
      have en := EW.out x
      have hge : ¬ (i : Int) < 8 * (n : Int) := by omega
      clear ei ex hin hi
      go_wp2
      go_ret
      exact ⟨by rw [HE.out]; rfl, rfl⟩
end Go.Proofs.YtjfpmjbbgmhjgaaDoor.Crc
