/- The plain law of CrcBursts: whatever turns within 32 bits of what is sealed is seen. -/
import Derived.Test.YtjfpmjbbgmhjgaaDoorMathXor
namespace Go.Proofs.YtjfpmjbbgmhjgaaDoor.CrcMath
open Go

theorem xor_byte (a b c d : Nat) (ha : a < 256) (hc : c < 256) : (a + 256 * b) ^^^ (c + 256 * d) = (a ^^^ c) + 256 * (b ^^^ d) := by
  have h1 := Nat.xor_mod_two_pow (a := a + 256 * b) (b := c + 256 * d) (n := 8)
  have h2 := Nat.xor_div_two_pow (a := a + 256 * b) (b := c + 256 * d) (n := 8)
  rw [show (a + 256 * b) % 2 ^ 8 = a from by omega, show (c + 256 * d) % 2 ^ 8 = c from by omega] at h1
  rw [show (a + 256 * b) / 2 ^ 8 = b from by omega, show (c + 256 * d) / 2 ^ 8 = d from by omega] at h2
  omega
theorem add_pow_xor (x m : Nat) (h : x < 2 ^ m) : x + 2 ^ m = x ^^^ 2 ^ m := by
  have hp := Nat.two_pow_pos m
  have h1 := Nat.xor_mod_two_pow (a := x) (b := 2 ^ m) (n := m)
  have h2 := Nat.xor_div_two_pow (a := x) (b := 2 ^ m) (n := m)
  rw [Nat.mod_eq_of_lt h, Nat.mod_self, Nat.xor_zero] at h1
  rw [Nat.div_eq_of_lt h, Nat.div_self hp, Nat.zero_xor] at h2
  have h3 := Nat.div_add_mod (x ^^^ 2 ^ m) (2 ^ m)
  rw [h1, h2] at h3
  omega
/-- The bits that turn in one round more. -/
theorem turn_succ (b i k : Nat) : (b % 2 ^ (i + 1)) * 2 ^ k = (b % 2 ^ i) * 2 ^ k ^^^ (if b / 2 ^ i % 2 = 1 then 2 ^ (k + i) else 0) := by
  have e : b % 2 ^ (i + 1) = b % 2 ^ i + 2 ^ i * (b / 2 ^ i % 2) := by
    rw [Nat.pow_succ, Nat.mod_mul]
  rw [e]
  rcases Nat.mod_two_eq_zero_or_one (b / 2 ^ i) with h | h
  · rw [h]; simp
  · rw [h, if_pos rfl, Nat.mul_one, Nat.add_mul, ← Nat.pow_add, Nat.add_comm i k]
    apply add_pow_xor
    have := Nat.mod_lt b (Nat.two_pow_pos i)
    rw [Nat.pow_add, Nat.mul_comm (2 ^ k)]
    exact Nat.mul_lt_mul_of_pos_right this (Nat.two_pow_pos k)
/-- One bit of a row turned. -/
theorem num_flip : ∀ (l : List Int) (p : Nat), Bytes l → p < 8 * l.length → num (l.set (p / 8) (x2 (l.getD (p / 8) 0) ((2 ^ (p % 8) : Nat) : Int))) = num l ^^^ 2 ^ p
  | [], p, _, h => by simp at h
  | c :: l, p, hb, h => by
    have hc := hb c (List.mem_cons_self ..)
    have hl : Bytes l := fun z hz => hb z (List.mem_cons_of_mem _ hz)
    rcases Nat.lt_or_ge p 8 with h8 | h8
    · have e0 : p / 8 = 0 := by omega
      have e1 : p % 8 = p := by omega
      have hp : 2 ^ p < 256 := Nat.lt_of_lt_of_le (Nat.pow_lt_pow_right (by decide) h8) (by decide)
      rw [e0, e1]
      simp only [List.set_cons_zero, List.getD_cons_zero, num]
      have hq : (0 : Int) ≤ ((2 ^ p : Nat) : Int) ∧ ((2 ^ p : Nat) : Int) < 256 := by
        generalize 2 ^ p = u at hp
        omega
      rw [x2_nat hc hq]
      simp only [Int.toNat_natCast]
      have := xor_byte c.toNat (num l) (2 ^ p) 0 (by omega) hp
      rw [Nat.mul_zero, Nat.add_zero, Nat.xor_zero] at this
      exact this.symm
    · obtain ⟨q, rfl⟩ : ∃ q, p = q + 8 := ⟨p - 8, by omega⟩
      have e0 : (q + 8) / 8 = q / 8 + 1 := by omega
      have e1 : (q + 8) % 8 = q % 8 := by omega
      rw [e0, e1]
      simp only [List.set_cons_succ, List.getD_cons_succ, num]
      have ih := num_flip l q hl (by simp at h; omega)
      rw [ih]
      have := xor_byte c.toNat (num l) 0 (2 ^ q) (by omega) (by decide)
      rw [Nat.xor_zero, Nat.zero_add] at this
      rw [← this, Nat.pow_add, Nat.mul_comm 256 (2 ^ q)]
theorem flip_bytes {l : List Int} {p : Nat} (hb : Bytes l) : Bytes (l.set (p / 8) (x2 (l.getD (p / 8) 0) ((2 ^ (p % 8) : Nat) : Int))) := by
  intro z hz
  rcases List.mem_or_eq_of_mem_set hz with h | h
  · exact hb z h
  · subst h
    have hp : 2 ^ (p % 8) < 256 := Nat.lt_of_lt_of_le (Nat.pow_lt_pow_right (by decide) (Nat.mod_lt p (by decide))) (by decide)
    have hq : (0 : Int) ≤ ((2 ^ (p % 8) : Nat) : Int) ∧ ((2 ^ (p % 8) : Nat) : Int) < 256 := by
      generalize 2 ^ (p % 8) = u at hp
      omega
    refine x2_byte ?_ hq
    rw [List.getD_eq_getElem?_getD]
    rcases Nat.lt_or_ge (p / 8) l.length with h1 | h1
    · rw [List.getElem?_eq_getElem h1]; exact hb _ (List.getElem_mem h1)
    · rw [List.getElem?_eq_none h1]; simp
theorem num_inj : ∀ (a b : List Int), a.length = b.length → Bytes a → Bytes b → num a = num b → a = b
  | [], [], _, _, _, _ => rfl
  | [], _ :: _, h, _, _, _ => by simp at h
  | _ :: _, [], h, _, _, _ => by simp at h
  | x :: a, y :: b, h, ha, hb, e => by
    have hx := ha x (List.mem_cons_self ..)
    have hy := hb y (List.mem_cons_self ..)
    simp only [num] at e
    have e1 : x = y := by omega
    rw [e1, num_inj a b (by simpa using h) (fun z hz => ha z (List.mem_cons_of_mem _ hz)) (fun z hz => hb z (List.mem_cons_of_mem _ hz)) (by omega)]
theorem num_le (x : BitVec 32) : num (le x) = x.toNat := by
  have := N_range x
  simp only [num, le, N] at *
  omega
/-- What stands behind what is sealed. -/
theorem raw_shut (l : List Int) : raw (~~~ 0#32) (shut l) = sts 32 (BitVec.allOnes 32) := by
  unfold shut
  rw [raw_append, raw_feed _ _ (le_bytes _), num_le]
  have h := sts_feed 32 (more 0#32 l).toNat (raw (~~~ 0#32) l) (Nat.le_refl _) (more 0#32 l).isLt
  rw [show 8 * (le (more 0#32 l)).length = 32 from rfl, ← h]
  congr 1
  unfold more
  generalize raw (~~~ 0#32) l = r
  rw [BitVec.ofNat_toNat, BitVec.setWidth_eq]
  apply BitVec.eq_of_getLsbD_eq
  intro i hi
  rw [BitVec.getLsbD_xor, BitVec.getLsbD_not, BitVec.getLsbD_allOnes]
  cases r.getLsbD i <;> simp [hi]
theorem opens_raw {l : List Int} (h : opens l = true) : raw (~~~ 0#32) l = sts 32 (BitVec.allOnes 32) := by
  have h1 := (of_decide_eq_true h).2
  rw [← h1]
  exact raw_shut _
/-- Something turned is seen. -/
theorem opens_burst {l s : List Int} {n k b : Nat} (hl : l.length = n) (hs : (shut s).length = n) (Yl : Bytes l) (Ys : Bytes (shut s)) (hb : b < 4294967296) (h0 : b ≠ 0) (hk : k + 32 ≤ 8 * n) (hn : num l = num (shut s) ^^^ b * 2 ^ k) : opens l = false := by
  cases h : opens l with
  | false => rfl
  | true =>
    exfalso
    have h1 := opens_raw h
    rw [raw_feed _ _ Yl, hn, hl] at h1
    have h2 := raw_shut s
    rw [raw_feed _ _ Ys, hs] at h2
    have h3 := feed_xor (8 * n) (num (shut s)) (b * 2 ^ k) (~~~ 0#32) 0#32
    rw [BitVec.xor_zero, h1, h2] at h3
    have h4 := congrArg (fun v => sts 32 (BitVec.allOnes 32) ^^^ v) h3
    simp only [← BitVec.xor_assoc, BitVec.xor_self, BitVec.zero_xor] at h4
    exact burst (8 * n) k b hb h0 hk h4.symm
theorem same_burst {l s : List Int} (hl : l.length = (shut s).length) (Yl : Bytes l) (Ys : Bytes (shut s)) (hn : num l = num (shut s)) : l = shut s := num_inj _ _ hl Yl Ys hn
end Go.Proofs.YtjfpmjbbgmhjgaaDoor.CrcMath
