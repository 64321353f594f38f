/- The machine's operations on unsigned 32-bit numbers, in terms of bit vectors. -/
import Derived.Laws.BitsAllLaws
import Derived.Laws.BytesArg
import Derived.Lib.Bytes
import Derived.Test.YtjfpmjbbgmhjgaaDoorMath
namespace Go.Proofs.YtjfpmjbbgmhjgaaDoor.CrcMath
open Go

/-- A bit vector as the number that Go has. -/
def N (x : BitVec 32) : Int := (x.toNat : Int)
theorem N_range (x : BitVec 32) : 0 ≤ N x ∧ N x < 4294967296 := by
  have := x.isLt
  unfold N
  omega
theorem N_inj {x y : BitVec 32} (h : N x = N y) : x = y := by
  unfold N at h
  exact BitVec.eq_of_toNat_eq (by omega)
theorem N_of {s : Int} (h0 : 0 ≤ s) (h1 : s < 4294967296) : N (BitVec.ofNat 32 s.toNat) = s := by
  unfold N
  rw [BitVec.toNat_ofNat]
  omega
theorem N_xor (x y : BitVec 32) : bits .xor .u32 (N x) (N y) = N (x ^^^ y) := by
  unfold N
  rw [u32_xor_nat _ _ (by simpa using x.isLt) (by simpa using y.isLt), BitVec.toNat_xor]
theorem N_and (x y : BitVec 32) : bits .and .u32 (N x) (N y) = N (x &&& y) := by
  unfold N
  rw [u32_and_nat _ _ (by simpa using x.isLt) (by simpa using y.isLt), BitVec.toNat_and]
theorem N_not (x : BitVec 32) : bits .xor .u32 4294967295 (N x) = N (~~~ x) := by
  have e : (4294967295 : Int) = N (BitVec.allOnes 32) := by decide
  rw [e, N_xor, BitVec.allOnes_xor]
theorem N_byte (r : BitVec 32) (c : Int) (h0 : 0 ≤ c) (h1 : c < 256) : bits .xor .u32 (N r) c = N (r ^^^ BitVec.ofNat 32 c.toNat) := by
  have e : c = N (BitVec.ofNat 32 c.toNat) := (N_of h0 (by omega)).symm
  rw [show bits .xor .u32 (N r) c = bits .xor .u32 (N r) (N (BitVec.ofNat 32 c.toNat)) from by rw [← e], N_xor]
theorem N_and1 (x : BitVec 32) : bits .and .u32 (N x) 1 = if x.getLsbD 0 then 1 else 0 := by
  have e : (1 : Int) = N 1#32 := by decide
  rw [show bits .and .u32 (N x) 1 = bits .and .u32 (N x) (N 1#32) from by rw [← e], N_and]
  have h : x &&& 1#32 = if x.getLsbD 0 then 1#32 else 0#32 := by
    apply BitVec.eq_of_getLsbD_eq
    intro i hi
    cases i with
    | zero => rw [BitVec.getLsbD_and]; cases h : x.getLsbD 0 <;> simp
    | succ i => cases h : x.getLsbD 0 <;> simp
  rw [h]
  cases x.getLsbD 0 <;> decide
theorem N_and15 (x : BitVec 32) : bits .and .u32 (N x) 15 = ((x.toNat % 16 : Nat) : Int) := by
  have e : (15 : Int) = N 15#32 := by decide
  rw [show bits .and .u32 (N x) 15 = bits .and .u32 (N x) (N 15#32) from by rw [← e], N_and]
  unfold N
  rw [BitVec.toNat_and]
  have : (15#32).toNat = 2 ^ 4 - 1 := by decide
  rw [this, Nat.and_two_pow_sub_one_eq_mod]
theorem N_half (x : BitVec 32) : N x / (2 : Int) = N (x >>> (1 : Nat)) := by
  unfold N
  rw [BitVec.toNat_ushiftRight, Nat.shiftRight_eq_div_pow]
  omega
theorem N_sixteenth (x : BitVec 32) : N x / (16 : Int) = N (x >>> (4 : Nat)) := by
  unfold N
  rw [BitVec.toNat_ushiftRight, Nat.shiftRight_eq_div_pow]
  omega
theorem N_poly (x : BitVec 32) : bits .xor .u32 (N x) 2197175160 = N (x ^^^ poly) := by
  have e : (2197175160 : Int) = N poly := by decide
  rw [e, N_xor]
theorem N_st1 (x : BitVec 32) (h : x.getLsbD 0 = true) : bits .xor .u32 (N x / 2) 2197175160 = N (st x) := by
  rw [N_half, N_poly]; unfold st; rw [h]; rfl
theorem N_st0 (x : BitVec 32) (h : x.getLsbD 0 = false) : N x / 2 = N (st x) := by
  rw [N_half]; unfold st; rw [h]; simp

/-- What four bits that fall out leave behind. -/
def T (i : Nat) : Int := N (sts 4 (BitVec.ofNat 32 i))
theorem sts4_split (r : BitVec 32) : (r >>> 4) ^^^ sts 4 (BitVec.ofNat 32 (r.toNat % 16)) = sts 4 r := by
  have h : r = BitVec.ofNat 32 r.toNat := by simp
  have e1 : sts 4 (0#32 ^^^ BitVec.ofNat 32 (r.toNat % 16)) = feed 4 (r.toNat % 16) 0#32 := sts_feed 4 _ _ (by decide) (by simp; omega)
  have key : ∀ (n : Nat) (y : BitVec 32), y.toNat < 2 ^ (32 - n) → n ≤ 32 → sts n (y <<< n) = y := by
    intro n
    induction n with
    | zero => intro y _ _; simp [sts]
    | succ n ih =>
      intro y hy hn
      have hs : y <<< (n + 1) = (y <<< n) <<< 1 := by rw [BitVec.shiftLeft_add]
      have hlt : y.toNat < 2 ^ (32 - n) := Nat.lt_of_lt_of_le hy (Nat.pow_le_pow_right (by decide) (by omega))
      have htop : (y <<< n).getLsbD 31 = false := by
        rw [BitVec.getLsbD_shiftLeft]
        have : y.getLsbD (31 - n) = false := by
          rw [BitVec.getLsbD]
          exact Nat.testBit_lt_two_pow (Nat.lt_of_lt_of_le hy (Nat.pow_le_pow_right (by decide) (by omega)))
        simp [this]
      rw [hs]
      show sts n (st _) = y
      rw [st_shl _ htop]
      exact ih y hlt (by omega)
  have hsplit : r = BitVec.ofNat 32 (r.toNat % 16) ^^^ ((r >>> 4) <<< 4) := by
    apply BitVec.eq_of_getLsbD_eq
    intro i hi
    rw [BitVec.getLsbD_xor, BitVec.getLsbD_shiftLeft, BitVec.getLsbD_ofNat, BitVec.getLsbD_ushiftRight]
    have ht : (r.toNat % 16).testBit i = (decide (i < 4) && r.toNat.testBit i) := by
      rw [show (16 : Nat) = 2 ^ 4 from rfl, Nat.testBit_mod_two_pow]
    rw [ht]
    rcases Nat.lt_or_ge i 4 with h4 | h4
    · simp [hi, h4, BitVec.getLsbD]
    · have e : 4 + (i - 4) = i := by omega
      simp [hi, show ¬ i < 4 from by omega, BitVec.getLsbD, e]
  have hy : (r >>> 4).toNat < 2 ^ (32 - 4) := by
    rw [BitVec.toNat_ushiftRight, Nat.shiftRight_eq_div_pow]
    have := r.isLt
    omega
  have h2 := congrArg (sts 4) hsplit
  rw [sts_xor, key 4 _ hy (by decide)] at h2
  rw [BitVec.xor_comm, ← h2]
theorem N_nibble (r : BitVec 32) : bits .xor .u32 (N r / 16) (T (r.toNat % 16)) = N (sts 4 r) := by
  unfold T
  rw [N_sixteenth, N_xor, sts4_split]
end Go.Proofs.YtjfpmjbbgmhjgaaDoor.CrcMath
namespace Go.Proofs.YtjfpmjbbgmhjgaaDoor.CrcMath
open Go
/-- A sum's four bytes. -/
def le (x : BitVec 32) : List Int := [N x % 256, N x / 256 % 256, N x / 65536 % 256, N x / 16777216 % 256]
theorem le_length (x : BitVec 32) : (le x).length = 4 := rfl
theorem le_bytes (x : BitVec 32) : Bytes (le x) := by
  intro y hy
  simp only [le, List.mem_cons, List.not_mem_nil, or_false] at hy
  rcases hy with rfl | rfl | rfl | rfl <;> omega
/-- What is sealed. -/
def shut (l : List Int) : List Int := l ++ le (more 0#32 l)
theorem shut_length (l : List Int) : (shut l).length = l.length + 4 := by simp [shut, le_length]
theorem shut_bytes {l : List Int} (h : Bytes l) : Bytes (shut l) := by
  intro x hx
  rcases List.mem_append.1 hx with h1 | h1
  · exact h x h1
  · exact le_bytes _ x h1
/-- Is it sealed? -/
def opens (l : List Int) : Bool := decide (4 ≤ l.length ∧ shut (l.take (l.length - 4)) = l)
/-- What was sealed. -/
def inner (l : List Int) : List Int := if opens l then l.take (l.length - 4) else []
theorem take_bytes {l : List Int} (h : Bytes l) (k : Nat) : Bytes (l.take k) := fun x hx => h x (List.mem_of_mem_take hx)
theorem text_eq {a b : List Int} (ha : Bytes a) (hb : Bytes b) : ((strOfNums a).toList == (strOfNums b).toList) = decide (a = b) := by
  have key : ∀ (a b : List Int), Bytes a → Bytes b → a.map (fun n => UInt8.ofNat n.toNat) = b.map (fun n => UInt8.ofNat n.toNat) → a = b := by
    intro a
    induction a with
    | nil => intro b _ _ h; cases b with
      | nil => rfl
      | cons _ _ => simp at h
    | cons x a ih => intro b ha hb h; cases b with
      | nil => simp at h
      | cons y b =>
        simp only [List.map_cons, List.cons.injEq] at h
        have hx := ha x (List.mem_cons_self ..)
        have hy := hb y (List.mem_cons_self ..)
        have h1 := congrArg UInt8.toNat h.1
        simp only [UInt8.toNat_ofNat'] at h1
        have e : x = y := by omega
        rw [e, ih b (fun z hz => ha z (List.mem_cons_of_mem _ hz)) (fun z hz => hb z (List.mem_cons_of_mem _ hz)) h.2]
  rw [Bool.eq_iff_iff]
  simp only [beq_iff_eq, decide_eq_true_eq]
  constructor
  · intro h
    rw [Lib.strOfNums_toList, Lib.strOfNums_toList] at h
    exact key a b ha hb h
  · intro h; rw [h]
end Go.Proofs.YtjfpmjbbgmhjgaaDoor.CrcMath
