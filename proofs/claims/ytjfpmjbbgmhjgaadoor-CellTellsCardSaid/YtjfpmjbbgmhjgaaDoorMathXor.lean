/- The plain law of CrcXor: the sum of three rows laid over each other is the three sums laid over each other. -/
import Derived.Test.YtjfpmjbbgmhjgaaDoorBits
namespace Go.Proofs.YtjfpmjbbgmhjgaaDoor.CrcMath
open Go

/-- Two bytes laid over each other. -/
def x2 (a b : Int) : Int := bits .xor .u8 a b
theorem x2_nat {a b : Int} (ha : 0 ≤ a ∧ a < 256) (hb : 0 ≤ b ∧ b < 256) : x2 a b = ((a.toNat ^^^ b.toNat : Nat) : Int) := u8_xor a b ha.1 ha.2 hb.1 hb.2
theorem xor_lt {a b : Nat} (ha : a < 256) (hb : b < 256) : a ^^^ b < 256 := Nat.xor_lt_two_pow (n := 8) ha hb
theorem x2_byte {a b : Int} (ha : 0 ≤ a ∧ a < 256) (hb : 0 ≤ b ∧ b < 256) : 0 ≤ x2 a b ∧ x2 a b < 256 := by
  rw [x2_nat ha hb]
  have := xor_lt (a := a.toNat) (b := b.toNat) (by omega) (by omega)
  omega
theorem ofNat_xor (a b : Nat) : BitVec.ofNat 32 (a ^^^ b) = BitVec.ofNat 32 a ^^^ BitVec.ofNat 32 b := by
  apply BitVec.eq_of_getLsbD_eq
  intro i hi
  simp [hi]
theorem up_x2 (r t : BitVec 32) {a b : Int} (ha : 0 ≤ a ∧ a < 256) (hb : 0 ≤ b ∧ b < 256) : up (r ^^^ t) (x2 a b) = up r a ^^^ up t b := by
  unfold up
  rw [x2_nat ha hb, Int.toNat_natCast, ofNat_xor, ← sts_xor, xor4]
theorem raw_x2 : ∀ (a b : List Int) (r t : BitVec 32), a.length = b.length → Bytes a → Bytes b → raw (r ^^^ t) (List.zipWith x2 a b) = raw r a ^^^ raw t b
  | [], [], _, _, _, _, _ => rfl
  | [], _ :: _, _, _, h, _, _ => by simp at h
  | _ :: _, [], _, _, h, _, _ => by simp at h
  | x :: a, y :: b, r, t, h, ha, hb => by
    show raw (up (r ^^^ t) (x2 x y)) (List.zipWith x2 a b) = raw (up r x) a ^^^ raw (up t y) b
    rw [up_x2 r t (ha x (List.mem_cons_self ..)) (hb y (List.mem_cons_self ..))]
    exact raw_x2 a b _ _ (by simpa using h) (fun z hz => ha z (List.mem_cons_of_mem _ hz)) (fun z hz => hb z (List.mem_cons_of_mem _ hz))
theorem bytes_x2 : ∀ (a b : List Int), Bytes a → Bytes b → Bytes (List.zipWith x2 a b)
  | [], _, _, _ => fun _ h => by cases h
  | _ :: _, [], _, _ => fun _ h => by cases h
  | x :: a, y :: b, ha, hb => by
    intro z hz
    rcases List.mem_cons.1 hz with rfl | hz
    · exact x2_byte (ha x (List.mem_cons_self ..)) (hb y (List.mem_cons_self ..))
    · exact bytes_x2 a b (fun z hz => ha z (List.mem_cons_of_mem _ hz)) (fun z hz => hb z (List.mem_cons_of_mem _ hz)) z hz
/-- Three rows laid over each other. -/
def x3 (a b c : List Int) : List Int := List.zipWith x2 (List.zipWith x2 a b) c
theorem x3_bytes {a b c : List Int} (ha : Bytes a) (hb : Bytes b) (hc : Bytes c) : Bytes (x3 a b c) := bytes_x2 _ _ (bytes_x2 _ _ ha hb) hc
theorem x3_len {a b c : List Int} {n : Nat} (ha : a.length = n) (hb : b.length = n) (hc : c.length = n) : (x3 a b c).length = n := by
  unfold x3; simp [ha, hb, hc]
theorem x3_at {a b c : List Int} {n i : Nat} (ha : a.length = n) (hb : b.length = n) (hc : c.length = n) (hi : i < n) : (x3 a b c).getD i 0 = bits .xor .u8 (bits .xor .u8 (a.getD i 0) (b.getD i 0)) (c.getD i 0) := by
  simp only [x3, List.getD_eq_getElem?_getD, List.getElem?_zipWith, List.getElem?_eq_getElem (show i < a.length by omega), List.getElem?_eq_getElem (show i < b.length by omega), List.getElem?_eq_getElem (show i < c.length by omega)]
  rfl
theorem not_xor3 (a b c : BitVec 32) : ~~~ (a ^^^ b ^^^ c) = ~~~ a ^^^ ~~~ b ^^^ ~~~ c := by
  apply BitVec.eq_of_getLsbD_eq
  intro i hi
  simp [hi]
theorem more_x3 {a b c : List Int} {n : Nat} (ha : a.length = n) (hb : b.length = n) (hc : c.length = n) (Ya : Bytes a) (Yb : Bytes b) (Yc : Bytes c) :
    more 0#32 (x3 a b c) = more 0#32 a ^^^ more 0#32 b ^^^ more 0#32 c := by
  unfold more x3
  rw [← not_xor3, ← raw_x2 a b _ _ (by omega) Ya Yb, ← raw_x2 _ c _ _ (by simp; omega) (bytes_x2 _ _ Ya Yb) Yc, show (~~~0#32 ^^^ ~~~0#32 ^^^ ~~~0#32 : BitVec 32) = ~~~0#32 from by decide]
theorem N_x3 {a b c : List Int} {n : Nat} (ha : a.length = n) (hb : b.length = n) (hc : c.length = n) (Ya : Bytes a) (Yb : Bytes b) (Yc : Bytes c) :
    bits .xor .u32 (bits .xor .u32 (N (more 0#32 a)) (N (more 0#32 b))) (N (more 0#32 c)) = N (more 0#32 (x3 a b c)) := by
  rw [N_xor, N_xor, more_x3 ha hb hc Ya Yb Yc]
/-- A row that agrees up to its end is x3. -/
theorem x3_of {a b c l : List Int} {n : Nat} (ha : a.length = n) (hb : b.length = n) (hc : c.length = n) (hl : l.length = n) (h : ∀ j, j < n → l.getD j 0 = bits .xor .u8 (bits .xor .u8 (a.getD j 0) (b.getD j 0)) (c.getD j 0)) : l = x3 a b c := by
  apply List.ext_getElem (by rw [hl, x3_len ha hb hc])
  intro i h1 h2
  have h3 := h i (by omega)
  rw [← x3_at ha hb hc (by omega)] at h3
  simpa [List.getD_eq_getElem?_getD, List.getElem?_eq_getElem h1, List.getElem?_eq_getElem h2] using h3
end Go.Proofs.YtjfpmjbbgmhjgaaDoor.CrcMath
