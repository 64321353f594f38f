/- The plain law of the sums: one bit's step on 32 bits is linear and loses nothing; no program stands here. -/
namespace Go.Proofs.YtjfpmjbbgmhjgaaDoor.CrcMath

def poly : BitVec 32 := 0x82F63B78#32
def st (x : BitVec 32) : BitVec 32 := (x >>> 1) ^^^ (if x.getLsbD 0 then poly else 0#32)

theorem xor4 (a b p q : BitVec 32) : (a ^^^ b) ^^^ (p ^^^ q) = (a ^^^ p) ^^^ (b ^^^ q) := by
  rw [BitVec.xor_assoc, BitVec.xor_assoc, ← BitVec.xor_assoc b p q, BitVec.xor_comm b p, BitVec.xor_assoc p b q]
theorem st_xor (x y : BitVec 32) : st (x ^^^ y) = st x ^^^ st y := by
  unfold st
  rw [BitVec.ushiftRight_xor_distrib, BitVec.getLsbD_xor, ← xor4]
  congr 1
  cases x.getLsbD 0 <;> cases y.getLsbD 0 <;> simp

theorem st_shl (y : BitVec 32) (h : y.getLsbD 31 = false) : st (y <<< 1) = y := by
  unfold st
  have h0 : (y <<< 1).getLsbD 0 = false := by simp
  rw [h0]
  apply BitVec.eq_of_getLsbD_eq
  intro i hi
  simp [BitVec.getLsbD_ushiftRight, BitVec.getLsbD_shiftLeft]
  intro hy
  rcases Nat.lt_or_ge (1 + i) 32 with h1 | h1
  · omega
  · have : i = 31 := by omega
    subst this
    rw [h] at hy
    exact absurd hy (by decide)

theorem st_zero {z : BitVec 32} (h : st z = 0#32) : z = 0#32 := by
  have hb : z.getLsbD 0 = false := by
    cases hz : z.getLsbD 0 with
    | false => rfl
    | true =>
      unfold st at h
      rw [hz] at h
      have h31 := congrArg (fun v : BitVec 32 => v.getLsbD 31) h
      simp [poly] at h31
  unfold st at h
  rw [hb] at h
  apply BitVec.eq_of_getLsbD_eq
  intro i hi
  cases i with
  | zero => rw [hb]; simp
  | succ i =>
    have hI := congrArg (fun v : BitVec 32 => v.getLsbD i) h
    simp [BitVec.getLsbD_ushiftRight] at hI
    rw [Nat.add_comm] at hI
    rw [hI]; simp

theorem xor_eq_zero {x y : BitVec 32} (h : x ^^^ y = 0#32) : x = y := by
  have := congrArg (fun v => v ^^^ y) h
  simpa [BitVec.xor_assoc] using this

theorem st_inj {x y : BitVec 32} (h : st x = st y) : x = y := by
  apply xor_eq_zero
  apply st_zero
  rw [st_xor, h]; simp

def sts : Nat → BitVec 32 → BitVec 32
  | 0, x => x
  | n + 1, x => sts n (st x)
theorem sts_xor (n : Nat) : ∀ x y, sts n (x ^^^ y) = sts n x ^^^ sts n y := by
  induction n with
  | zero => intro x y; rfl
  | succ n ih => intro x y; simp only [sts]; rw [st_xor, ih]
theorem sts_inj (n : Nat) : ∀ {x y}, sts n x = sts n y → x = y := by
  induction n with
  | zero => intro x y h; exact h
  | succ n ih => intro x y h; exact st_inj (ih h)
theorem st_0 : st 0#32 = 0#32 := by decide
theorem sts_0 (n : Nat) : sts n 0#32 = 0#32 := by
  induction n with
  | zero => rfl
  | succ n ih => simp only [sts]; rw [st_0, ih]
theorem sts_succ (n : Nat) : ∀ x, sts (n + 1) x = st (sts n x) := by
  induction n with
  | zero => intro x; rfl
  | succ n ih => intro x; rw [sts, ih]; rfl
theorem sts_add (m n : Nat) : ∀ x, sts (m + n) x = sts n (sts m x) := by
  induction m with
  | zero => intro x; simp [sts]
  | succ m ih => intro x; rw [Nat.add_right_comm]; simp only [sts]; exact ih _

/-- One bit goes in. -/
def fd (r : BitVec 32) (b : Bool) : BitVec 32 := st (r ^^^ (if b then 1#32 else 0#32))
/-- n bits of y go in, the lowest first. -/
def feed : Nat → Nat → BitVec 32 → BitVec 32
  | 0, _, r => r
  | n + 1, y, r => feed n (y / 2) (fd r (y % 2 == 1))

theorem bit0 (y : Nat) : (if y % 2 == 1 then 1#32 else 0#32) = BitVec.ofNat 32 (y % 2) := by
  rcases Nat.mod_two_eq_zero_or_one y with h | h <;> simp [h]

theorem half_split (y : Nat) (_hy : y < 4294967296) : BitVec.ofNat 32 y = BitVec.ofNat 32 (y % 2) ^^^ (BitVec.ofNat 32 (y / 2) <<< 1) := by
  apply BitVec.eq_of_getLsbD_eq
  intro i hi
  simp only [BitVec.getLsbD_ofNat, BitVec.getLsbD_xor, BitVec.getLsbD_shiftLeft]
  cases i with
  | zero => simp [Nat.testBit_zero]
  | succ i =>
    have h1 : (y % 2).testBit (i + 1) = false := by
      rw [Nat.testBit_succ]
      have : y % 2 / 2 = 0 := by omega
      simp [this]
    have h2 : i < 32 := by omega
    simp [h1, Nat.testBit_succ, hi, h2]

theorem sts_feed (n : Nat) : ∀ (y : Nat) (r : BitVec 32), n ≤ 32 → y < 2 ^ n → sts n (r ^^^ BitVec.ofNat 32 y) = feed n y r := by
  induction n with
  | zero =>
    intro y r _ hy
    have : y = 0 := by simpa using hy
    subst this
    simp [sts, feed]
  | succ n ih =>
    intro y r hn hy
    have hy32 : y < 4294967296 := Nat.lt_of_lt_of_le hy (Nat.pow_le_pow_right (by decide) hn : 2 ^ (n + 1) ≤ 2 ^ 32)
    have hh : y / 2 < 2 ^ n := by rw [Nat.pow_succ] at hy; omega
    have htop : (BitVec.ofNat 32 (y / 2)).getLsbD 31 = false := by
      rw [BitVec.getLsbD_ofNat]
      have : (y / 2).testBit 31 = false := Nat.testBit_lt_two_pow (by omega)
      simp [this]
    simp only [sts, feed]
    rw [half_split y hy32, ← BitVec.xor_assoc, st_xor, st_shl _ htop, ih _ _ (by omega) hh]
    unfold fd
    rw [bit0]

theorem feed_add (m : Nat) : ∀ (n y : Nat) (r : BitVec 32), feed (m + n) y r = feed n (y / 2 ^ m) (feed m y r) := by
  induction m with
  | zero => intro n y r; simp [feed]
  | succ m ih =>
    intro n y r
    rw [Nat.add_right_comm]
    simp only [feed]
    rw [ih, Nat.div_div_eq_div_mul, Nat.pow_succ, Nat.mul_comm (2 ^ m) 2]

theorem feed_mod (m : Nat) : ∀ (y : Nat) (r : BitVec 32), feed m (y % 2 ^ m) r = feed m y r := by
  induction m with
  | zero => intro y r; simp [feed]
  | succ m ih =>
    intro y r
    simp only [feed]
    have h1 : y % 2 ^ (m + 1) % 2 = y % 2 := by rw [Nat.pow_succ, Nat.mul_comm]; exact Nat.mod_mul_right_mod y 2 (2 ^ m)
    have h2 : y % 2 ^ (m + 1) / 2 = (y / 2) % 2 ^ m := by rw [Nat.pow_succ, Nat.mul_comm]; exact Nat.mod_mul_right_div_self y 2 (2 ^ m)
    rw [h1, h2, ih]

theorem fd_xor (r t : BitVec 32) (b c : Bool) : fd (r ^^^ t) (b ^^ c) = fd r b ^^^ fd t c := by
  unfold fd
  rw [← st_xor, ← xor4]
  congr 2
  cases b <;> cases c <;> simp

theorem feed_xor (n : Nat) : ∀ (x y : Nat) (r t : BitVec 32), feed n (x ^^^ y) (r ^^^ t) = feed n x r ^^^ feed n y t := by
  induction n with
  | zero => intro x y r t; rfl
  | succ n ih =>
    intro x y r t
    simp only [feed]
    have h1 : ((x ^^^ y) % 2 == 1) = ((x % 2 == 1) ^^ (y % 2 == 1)) := by
      have h := Nat.testBit_xor x y 0
      simp only [Nat.testBit_zero] at h
      rcases Nat.mod_two_eq_zero_or_one x with a | a <;> rcases Nat.mod_two_eq_zero_or_one y with b | b <;> simp [a, b] at h ⊢ <;> omega
    have h2 : (x ^^^ y) / 2 = (x / 2) ^^^ (y / 2) := by
      have := Nat.shiftRight_xor_distrib (a := x) (b := y) (i := 1)
      simpa [Nat.shiftRight_succ] using this
    rw [h1, h2, fd_xor, ih]

theorem feed_zero (n : Nat) : ∀ r, feed n 0 r = sts n r := by
  induction n with
  | zero => intro r; rfl
  | succ n ih =>
    intro r
    simp only [feed, sts]
    have : fd r (0 % 2 == 1) = st r := by simp [fd]
    rw [this]
    exact ih _

theorem feed_inj (n y : Nat) {r t : BitVec 32} (h : feed n y r = feed n y t) : r = t := by
  have e : ∀ r, feed n y r = feed n y 0#32 ^^^ sts n r := by
    intro r
    have := feed_xor n y 0 0#32 r
    rw [Nat.xor_zero, BitVec.zero_xor, feed_zero] at this
    exact this
  rw [e r, e t] at h
  have h2 := congrArg (fun v => feed n y 0#32 ^^^ v) h
  simp only [← BitVec.xor_assoc, BitVec.xor_self, BitVec.zero_xor] at h2
  exact sts_inj n h2

/-- What turns within 32 bits is seen. -/
theorem burst (n k bits : Nat) (hb : bits < 4294967296) (h0 : bits ≠ 0) (hk : k + 32 ≤ n) : feed n (bits * 2 ^ k) 0#32 ≠ 0#32 := by
  obtain ⟨m, rfl⟩ : ∃ m, n = k + (32 + m) := ⟨n - k - 32, by omega⟩
  rw [feed_add, Nat.mul_div_cancel _ (Nat.two_pow_pos k), feed_add]
  have e0 : feed k (bits * 2 ^ k) 0#32 = 0#32 := by
    rw [← feed_mod, Nat.mul_mod_left, feed_zero, sts_0]
  rw [e0, ← sts_feed 32 bits 0#32 (Nat.le_refl _) (by simpa using hb), BitVec.zero_xor]
  have e1 : bits / 2 ^ 32 = 0 := Nat.div_eq_of_lt (by simpa using hb)
  rw [e1, feed_zero]
  intro h
  rw [← sts_0 m] at h
  have h2 := sts_inj m h
  rw [← sts_0 32] at h2
  have h3 := sts_inj 32 h2
  have h4 := congrArg BitVec.toNat h3
  simp at h4
  omega

/-! Lists of bytes -/
def up (r : BitVec 32) (c : Int) : BitVec 32 := sts 8 (r ^^^ BitVec.ofNat 32 c.toNat)
def raw (r : BitVec 32) (l : List Int) : BitVec 32 := l.foldl up r
def Bytes (l : List Int) : Prop := ∀ x ∈ l, 0 ≤ x ∧ x < 256
/-- The number that bytes are, the first one lowest. -/
def num : List Int → Nat
  | [] => 0
  | c :: l => c.toNat + 256 * num l

theorem raw_feed (l : List Int) : ∀ (r : BitVec 32), Bytes l → raw r l = feed (8 * l.length) (num l) r := by
  induction l with
  | nil => intro r _; rfl
  | cons c l ih =>
    intro r hb
    have hc := hb c (List.mem_cons_self ..)
    have hl : Bytes l := fun x hx => hb x (List.mem_cons_of_mem _ hx)
    have hcn : c.toNat < 2 ^ 8 := by simp; omega
    show raw (up r c) l = _
    rw [ih _ hl]
    have e : 8 * (c :: l).length = 8 + 8 * l.length := by simp; omega
    rw [e, feed_add]
    have e1 : num (c :: l) / 2 ^ 8 = num l := by simp only [num]; omega
    have e2 : feed 8 (num (c :: l)) r = up r c := by
      rw [← feed_mod]
      have : num (c :: l) % 2 ^ 8 = c.toNat := by simp only [num]; omega
      rw [this, ← sts_feed 8 _ _ (by decide) hcn]; rfl
    rw [e1, e2]

theorem raw_append (r : BitVec 32) (a b : List Int) : raw r (a ++ b) = raw (raw r a) b := by
  unfold raw; rw [List.foldl_append]

theorem raw_inj (l : List Int) : ∀ {r t : BitVec 32}, raw r l = raw t l → r = t := by
  induction l with
  | nil => intro r t h; exact h
  | cons c l ih =>
    intro r t h
    have h1 := ih (r := up r c) (t := up t c) h
    have h2 := sts_inj 8 h1
    have h3 := congrArg (fun v => v ^^^ BitVec.ofNat 32 c.toNat) h2
    simpa [BitVec.xor_assoc] using h3

/-- The sum gone on with. -/
def more (s : BitVec 32) (l : List Int) : BitVec 32 := ~~~ raw (~~~ s) l
theorem more_nil (s : BitVec 32) : more s [] = s := by simp [more, raw]
theorem more_append (s : BitVec 32) (a b : List Int) : more s (a ++ b) = more (more s a) b := by
  unfold more; rw [raw_append, BitVec.not_not]
theorem more_inj (l : List Int) {s t : BitVec 32} (h : more s l = more t l) : s = t := by
  unfold more at h
  have h1 := congrArg (fun v => ~~~ v) h
  simp only [BitVec.not_not] at h1
  have h2 := congrArg (fun v => ~~~ v) (raw_inj l h1)
  simpa using h2
end Go.Proofs.YtjfpmjbbgmhjgaaDoor.CrcMath
