/- The walk of CellBursts. -/
import Derived.Test.YtjfpmjbbgmhjgaaDoorLaws
import Derived.Test.YtjfpmjbbgmhjgaaDoorMathBurst
namespace Go.Proofs.YtjfpmjbbgmhjgaaDoor.Crc
open Go.RowKit CrcMath

theorem num_ahead {l m : List Int} {y : Nat} (h : num l = num m ^^^ y) : ∀ a : List Int, Bytes a → num (a ++ l) = num (a ++ m) ^^^ y * 2 ^ (8 * a.length)
  | [], _ => by simpa using h
  | c :: a, ha => by
    have hc := ha c (List.mem_cons_self ..)
    have ih := num_ahead h a (fun z hz => ha z (List.mem_cons_of_mem _ hz))
    simp only [List.cons_append, num]
    rw [ih]
    have := xor_byte c.toNat (num (a ++ m)) 0 (y * 2 ^ (8 * a.length)) (by omega) (by decide)
    rw [Nat.xor_zero, Nat.zero_add] at this
    rw [← this]
    congr 1
    have e : 8 * (c :: a).length = 8 + 8 * a.length := by simp; omega
    rw [e, Nat.pow_add, show (2 : Nat) ^ 8 = 256 from rfl]
    generalize 2 ^ (8 * a.length) = u
    rw [Nat.mul_left_comm]
theorem hd_bytes (q p : Int) : Bytes (hd q p) := by
  intro x hx
  rcases List.mem_append.1 hx with h | h
  · exact le_bytes _ x h
  · obtain rfl := List.mem_singleton.1 h
    omega
theorem hd_sector (q p : Int) (l : List Int) : hd q p ++ sector q p l = shut (hd q p ++ body l) := by
  unfold shut sector
  rw [List.append_assoc]
/-- What has turned within 32 bits is no sector. -/
theorem gets_burst {q p : Int} {l s : List Int} {k b : Nat} (hl : l.length ≤ 59) (Yl : Bytes l) (hs : s.length = 64) (Ys : Bytes s) (hb : b < 4294967296) (h0 : b ≠ 0) (hk : k + 32 ≤ 512) (hn : num s = num (sector q p l) ^^^ b * 2 ^ k) : gets q p s = false := by
  cases h : gets q p s with
  | false => rfl
  | true =>
    exfalso
    have h1 := gets_opens h
    have h5 : (hd q p).length = 5 := rfl
    have h2 := num_ahead hn (hd q p) (hd_bytes q p)
    rw [hd_sector, h5, Nat.mul_assoc, ← Nat.pow_add] at h2
    have hlen : (shut (hd q p ++ body l)).length = 69 := by rw [← hd_sector, List.length_append, h5, sector_length hl]
    have hY : Bytes (shut (hd q p ++ body l)) := by
      rw [← hd_sector]
      intro x hx
      rcases List.mem_append.1 hx with h | h
      · exact hd_bytes q p x h
      · exact sector_bytes hl Yl x h
    have h3 := opens_burst (l := hd q p ++ s) (s := hd q p ++ body l) (n := 69) (k := k + 8 * 5) (b := b) (by rw [List.length_append, h5, hs]) hlen (by
      intro x hx
      rcases List.mem_append.1 hx with h | h
      · exact hd_bytes q p x h
      · exact Ys x h) hY hb h0 (by omega) h2
    rw [h1] at h3
    cases h3
theorem bit_on {b j : Nat} (h : b / 2 ^ j % 2 = 1) : (((b : Int) / 2 ^ j).tmod 2 == 1) = true := by
  have e : ((b : Int) / 2 ^ j).tmod 2 = ((b / 2 ^ j % 2 : Nat) : Int) := by
    rw [Int.tmod_eq_emod_of_nonneg (Int.ediv_nonneg (by omega) (Int.le_of_lt (Int.pow_pos (by decide))))]
    push_cast
    rfl
  rw [e, h]; rfl
theorem bit_off {b j : Nat} (h : ¬ b / 2 ^ j % 2 = 1) : (((b : Int) / 2 ^ j).tmod 2 == 1) = false := by
  have e : ((b : Int) / 2 ^ j).tmod 2 = ((b / 2 ^ j % 2 : Nat) : Int) := by
    rw [Int.tmod_eq_emod_of_nonneg (Int.ediv_nonneg (by omega) (Int.le_of_lt (Int.pow_pos (by decide))))]
    push_cast
    rfl
  have h2 : b / 2 ^ j % 2 = 0 := by rcases Nat.mod_two_eq_zero_or_one (b / 2 ^ j) with h1 | h1 <;> omega
  rw [e, h2]; rfl
theorem pow_mod256 {r : Nat} (h : r < 8) : (2 : Int) ^ r % 256 = ((2 ^ r : Nat) : Int) := by
  match r, h with
  | 0, _ => rfl
  | 1, _ => rfl
  | 2, _ => rfl
  | 3, _ => rfl
  | 4, _ => rfl
  | 5, _ => rfl
  | 6, _ => rfl
  | 7, _ => rfl
attribute [local go_sem] min2_mn min_mn
set_option maxHeartbeats 8000000 in
set_option maxRecDepth 100000 in
theorem CellBursts_walk (s0 k0 : Int) (A : Option Addr) (n c : Nat) (zs : List Int) (at0 b0 : Int) (w : World) (hs : (Lit.int .u32 s0).wf = true) (hk : (Lit.int .u8 k0).wf = true) (hz : IsRow .u8 w A n c zs) (ha : (Lit.int .u16 at0).wf = true) (hb0 : (Lit.int .u32 b0).wf = true) :
    Calls Tryd.prog 6 #[.int .u32 s0, .int .u8 k0, .slice A n c, .int .u16 at0, .int .u32 b0] w fun e w' => e = .returned (.bool true) ∧ Below w.heap.size w w' := by
  have bs := bounds_u32 hs
  have bk := bounds_u8 hk
  have bb := bounds_u32 hb0
  have ba : 0 ≤ at0 ∧ at0 < 65536 := by simp [Lit.wf, IntKind.min, IntKind.max, IntKind.bits, IntKind.signed] at ha; omega
  obtain ⟨b, hbb, rfl⟩ : ∃ b : Nat, b < 2 ^ 32 ∧ b0 = (b : Int) := ⟨b0.toNat, by omega, by omega⟩
  have BB := Lib.hid hbb
  obtain ⟨m, hm⟩ : ∃ m, m = min n 59 := ⟨_, rfl⟩
  have hm1 : m ≤ n := by omega
  have hm2 : m ≤ 59 := by omega
  have hmn : mn (n : Int) 59 = (m : Int) := mn2 (b := 59) hm
  have hle := hz.rd.le
  have hsm := hz.rd.small
  have R := Lib.hid (hz.rd.take m hm1)
  have Y := Lib.hid (take_bytes hz.bytes m)
  generalize (zs.take n).take m = l at R Y
  have L := Lib.hid R.out.len
  clear hs hk hz hm ha hb0 bb hbb
  obtain ⟨q1, hq1⟩ : ∃ q, q = 1 + s0 / 2 := ⟨_, rfl⟩
  have r11 : right q1 k0 = true := right_mk (by omega)
  have hl59 : l.length ≤ 59 := by rw [L.out]; exact hm2
  have hput := put_right r11 hl59
  have hlen := sector_length (q := q1) (p := k0) hl59
  have hsb := sector_bytes (q := q1) (p := k0) hl59 Y.out
  have hsame := gets_same hl59 Y.out r11
  have hgb : ∀ (s : List Int) (k b : Nat), s.length = 64 → Bytes s → b < 4294967296 → b ≠ 0 → k + 32 ≤ 512 → num s = num (sector q1 k0 l) ^^^ b * 2 ^ k → gets q1 k0 s = false := fun s k b h1 h2 h3 h4 h5 h6 => gets_burst hl59 Y.out h1 h2 h3 h4 h5 h6
  have hw1 := hq1.symm
  obtain ⟨S, hS⟩ : ∃ S, S = sector q1 k0 l := ⟨_, rfl⟩
  rw [← hS] at hput hlen hsb hsame hgb
  have HP := Lib.hid hput
  have HL := Lib.hid hlen
  have HSB := Lib.hid hsb
  have HSA := Lib.hid hsame
  have HGB := Lib.hid hgb
  obtain ⟨k, hk⟩ : ∃ k : Nat, Int.tmod at0 481 = (k : Int) ∧ k + 32 ≤ 512 := by
    rw [Int.tmod_eq_emod_of_nonneg ba.1]
    exact ⟨(at0 % 481).toNat, by omega, by omega⟩
  obtain ⟨hkm, hkn⟩ := hk
  clear r11 hl59 hput hlen hsb hsame hgb hq1 hS
  go_enter Tryd.func6, Tryd.ntmps6
  go_wp2_with fail
  refine (head_any _).mono ?_
  rintro e w1 ⟨rfl, hb1⟩
  have B1 := Lib.hid hb1
  clear hb1
  go_wp2_with fail
  refine (put_any q1 k0 A m c l _ (R.out.below B1.out) Y.out).mono ?_
  rintro e w2 ⟨⟨v2, rfl, ho2⟩, hb2⟩
  rw [HP.out, HL.out] at ho2
  obtain ⟨A2, c2, rfl, hr2, _⟩ := ho2.rd
  have B2 := Lib.hid (below_trans B1.out hb2 B1.out.size)
  have O2 := Lib.hid (Own.lower ho2 B1.out.size)
  clear ho2 hb2 hr2
  obtain ⟨g, hA, hgb⟩ := Own.slot O2.out (by omega)
  subst hA
  have HG := Lib.hid hgb
  clear hgb
  go_wp2_with fail
  go_loopw [15] (fun i wr => ∃ j : Nat, j ≤ 32 ∧ i = .int .i64 j ∧ ∃ lk, Own wr .u8 37 w.heap.size (.slice (some ⟨g, 0, none⟩) 64 c2) 64 lk ∧ Bytes lk ∧ num lk = num S ^^^ (b % 2 ^ j) * 2 ^ k ∧ Below w.heap.size w wr) (fun i _ => 32 - (intOf i).toNat)
  case atStart => exact ⟨0, Nat.zero_le _, rfl, _, O2.out, HSB.out, by simp [Nat.mod_one], B2.out⟩
  case round =>
    obtain ⟨j, hj, rfl, lk, ho, hyk, hnum, hbel⟩ := hrel
    have O := Lib.hid ho
    have X := Lib.hid hbel
    have YK := Lib.hid hyk
    have NU := Lib.hid hnum
    clear ho hbel hyk hnum
    by_cases hlt : j < 32
    · have ht := turn_succ b j k
      by_cases hbit : b / 2 ^ j % 2 = 1
      · rw [if_pos hbit] at ht
        have HT := Lib.hid ht
        clear ht
        have ht1 := bit_on hbit
        obtain ⟨p, hp, hp0, hp1, hp2⟩ : ∃ p : Nat, p = k + j ∧ IntKind.i64.wrap ((k : Int) + j) = (p : Int) ∧ Int.tdiv (p : Int) 8 = ((p / 8 : Nat) : Int) ∧ Int.tmod (p : Int) 8 = ((p % 8 : Nat) : Int) := ⟨k + j, rfl, by rw [IntKind.wrap_i64]; omega, by rw [Int.tdiv_eq_ediv_of_nonneg (by omega)]; omega, by rw [Int.tmod_eq_emod_of_nonneg (by omega)]; omega⟩
        have hc := Own.cell O.out (p / 8) (by omega)
        obtain ⟨y0, hy0⟩ : ∃ y, y = lk.getD (p / 8) 0 := ⟨_, rfl⟩
        rw [← hy0] at hc
        have V0 := Lib.hid hy0
        have HP' := Lib.hid hp
        have b1 : ((p / 8 : Nat) : Int) < 64 := by omega
        have b2 : (0 : Int) ≤ ((p / 8 : Nat) : Int) := by omega
        obtain ⟨q, hq⟩ : ∃ q, q = p / 8 := ⟨_, rfl⟩
        obtain ⟨r, hr⟩ : ∃ r, r = p % 8 := ⟨_, rfl⟩
        rw [← hq] at hp1 hc b1 b2 V0
        rw [← hr] at hp2
        have HQ := Lib.hid hq
        have HR := Lib.hid hr
        have br : r < 8 := by omega
        have hq0 : IntKind.i64.wrap (q : Int) = q := by rw [IntKind.wrap_i64]; omega
        have hr0 : IntKind.i64.wrap (r : Int) = r := by rw [IntKind.wrap_i64]; omega
        have hpn : 0 ≤ (p : Int) := by omega
        clear hy0 hp hq hr
        go_wp2_with fail
        go_still_tail 19, (by kernel_rfl)
        change wpList _ _ _ _ _ (wr.drewN 1)
        obtain ⟨W, hW⟩ : ∃ W, W = wr.drewN 1 := ⟨_, rfl⟩
        rw [← hW]
        have OW : Own W .u8 37 w.heap.size (.slice (some ⟨g, 0, none⟩) 64 c2) 64 lk := by rw [hW]; exact O.out
        have XW : Below w.heap.size w W := by rw [hW]; exact below_drewN2 X.out 1
        clear hc hW
        have hc := Own.cell OW q (by omega)
        have hf := World.ownsRow.frozenAt OW q
        obtain ⟨y1, hy1⟩ : ∃ y, y = lk.getD q 0 := ⟨_, rfl⟩
        rw [← hy1] at hc
        clear hy1
        have O' := Lib.hid OW
        have X' := Lib.hid XW
        clear OW XW O X
        go_wp2
        go_roundw
        case rel =>
          have hsh : (2 : Int) ^ r % 256 = ((2 ^ (p % 8) : Nat) : Int) := by rw [HR.out]; exact pow_mod256 (Nat.mod_lt p (by decide))
          refine ⟨j + 1, by omega, by go_num, _, Own.store O'.out q _, ?_, ?_, X'.out.setCell HG.out _⟩
          · rw [hsh, V0.out, HQ.out]
            exact flip_bytes YK.out
          · rw [hsh, V0.out, HQ.out, HT.out, ← Nat.xor_assoc, ← NU.out, ← HP'.out]
            have hlen := O'.out.len
            have hpk := HP'.out
            exact num_flip lk p YK.out (by rw [hlen]; omega)
        case measure => simp [intOf]; omega
      · rw [if_neg hbit, Nat.xor_zero] at ht
        have HT := Lib.hid ht
        clear ht
        have ht1 := bit_off hbit
        go_wp2
        go_roundw
        case rel => exact ⟨j + 1, by omega, by go_num, lk, O.out, YK.out, by rw [NU.out, HT.out], X.out⟩
        case measure => simp [intOf]; omega
    · have hj32 : j = 32 := by omega
      subst hj32
      have hnu := NU.out
      rw [Nat.mod_eq_of_lt BB.out] at hnu
      obtain ⟨A5, c5, e5, hr5, _⟩ := O.out.rd
      cases e5
      have R5 := Lib.hid hr5
      by_cases hb0 : b = 0
      · subst hb0
        rw [Nat.zero_mul, Nat.xor_zero] at hnu
        have e := num_inj _ _ (by rw [O.out.len, HL.out]) YK.out HSB.out hnu
        subst e
        clear hr5 hnu
        go_wp2_with fail
        refine (get_reads true _ _ 64 _ _ q1 k0 _ R5.out YK.out HSA.out rfl).mono ?_
        rintro e w5 ⟨⟨A5, c5, rfl, _⟩, hb5⟩
        have X5 := Lib.hid (below_trans X.out hb5 X.out.size)
        clear hb5
        go_wp2
        go_ret
        exact ⟨rfl, X5.out⟩
      · have hf := HGB.out lk k b O.out.len YK.out BB.out hb0 hkn hnu
        have hbz : decide ((b : Int) = 0) = false := decide_eq_false (by omega)
        have hbz2 : ((b : Int) == 0) = false := by rw [beq_eq_false_iff_ne]; omega
        have HF := Lib.hid hf
        clear hr5 hnu hf
        go_wp2_with fail
        refine (get_reads false [] _ 64 _ lk q1 k0 _ R5.out YK.out HF.out (getv_none HF.out)).mono ?_
        rintro e w5 ⟨⟨A5, c5, rfl, _⟩, hb5⟩
        have X5 := Lib.hid (below_trans X.out hb5 X.out.size)
        clear hb5
        go_wp2
        go_ret
        exact ⟨rfl, X5.out⟩
end Go.Proofs.YtjfpmjbbgmhjgaaDoor.Crc
