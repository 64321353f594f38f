/- Rows of texts; what two rows of numbers are to each other; slices.Compare, slices.Contains. -/
import Derived.Test.YtbfnjfmnblafaaaProg
import Derived.Test.YtbfnjfmnblafaaaBase
import Derived.KernelRfl
namespace Go.Proofs.Ytbfnjfmnblafaaa.Qry
open Go.RowKit

/-- The slice at A, of n texts and a capacity of c, reads as l. -/
structure SRd (w : World) (A : Option Addr) (n c : Nat) (l : List ByteArray) : Prop where
  len : l.length = n
  le : n ≤ c
  small : c ≤ 9223372036854775807
  nil : A = none → c = 0
  spot : ∀ ad, A = some ad → 0 < n → ∃ b o, ad = ⟨b, o, none⟩ ∧ ∀ j, (h : j < l.length) → w.cell? ⟨b, o + j, none⟩ = some (.string l[j])
theorem SRd.below {w w1 : World} {A : Option Addr} {n c : Nat} {l : List ByteArray} (h : SRd w A n c l) (hb : Below w.heap.size w w1) : SRd w1 A n c l :=
  ⟨h.len, h.le, h.small, h.nil, fun ad e h0 => by
    obtain ⟨b, o, e2, hc⟩ := h.spot ad e h0
    exact ⟨b, o, e2, fun j hj => (hb.cell (World.block_lt_of_cell? w _ (hc j hj))).trans (hc j hj)⟩⟩
theorem SRd.cell {w : World} {A : Option Addr} {n c : Nat} {l : List ByteArray} (h : SRd w A n c l) (j : Nat) (hj : j < l.length) : ∃ ad, A = some ad ∧ w.cell? (ad.add j) = some (.string l[j]) := by
  cases A with
  | none => have := h.nil rfl; have := h.le; have := h.len; omega
  | some ad =>
    obtain ⟨b, o, rfl, hc⟩ := h.spot ad rfl (by have := h.len; omega)
    exact ⟨_, rfl, by rw [add_off]; exact hc j hj⟩

/-- What two rows of numbers are to each other: the first that differs tells. -/
def cmpL : List Int → List Int → Int
  | [], [] => 0
  | [], _ :: _ => -1
  | _ :: _, [] => 1
  | a :: l, b :: m => if a < b then -1 else if b < a then 1 else cmpL l m
def cmp1 (a b : Int) : Int := if a < b then -1 else if b < a then 1 else 0
theorem nan_any (x : Int) (w : World) : Calls Try.prog 39 #[.int .i64 x] w fun e w' => e = .returned (.bool false) ∧ w = w' := by
  go_enter Try.func39, Try.ntmps39
  go_wp2
  go_ret
  exact ⟨rfl, rfl⟩
theorem cmp1_any (a b : Int) (w : World) : Calls Try.prog 35 #[.int .i64 a, .int .i64 b] w fun e w' => e = .returned (.int .i64 (cmp1 a b)) ∧ w = w' := by
  rcases Int.lt_trichotomy a b with h | h | h
  · have hd : decide (a < b) = true := decide_eq_true h
    have e : cmp1 a b = -1 := by unfold cmp1; rw [if_pos h]
    rw [e]
    go_enter Try.func35, Try.ntmps35
    go_wp2_with fail
    refine (nan_any a _).mono ?_
    rintro e w1 ⟨rfl, rfl⟩
    go_wp2_with fail
    refine (nan_any b _).mono ?_
    rintro e w1 ⟨rfl, rfl⟩
    go_wp2
    go_ret
    exact ⟨rfl, rfl⟩
  · subst h
    have hd : decide (a < a) = false := decide_eq_false (by omega)
    have e : cmp1 a a = 0 := by unfold cmp1; rw [if_neg (by omega), if_neg (by omega)]
    rw [e]
    go_enter Try.func35, Try.ntmps35
    go_wp2_with fail
    refine (nan_any a _).mono ?_
    rintro e w1 ⟨rfl, rfl⟩
    go_wp2_with fail
    refine (nan_any a _).mono ?_
    rintro e w1 ⟨rfl, rfl⟩
    go_wp2
    go_ret
    exact ⟨rfl, rfl⟩
  · have hd : decide (a < b) = false := decide_eq_false (by omega)
    have hd2 : decide (b < a) = true := decide_eq_true h
    have e : cmp1 a b = 1 := by unfold cmp1; rw [if_neg (by omega), if_pos h]
    rw [e]
    go_enter Try.func35, Try.ntmps35
    go_wp2_with fail
    refine (nan_any a _).mono ?_
    rintro e w1 ⟨rfl, rfl⟩
    go_wp2_with fail
    refine (nan_any b _).mono ?_
    rintro e w1 ⟨rfl, rfl⟩
    go_wp2
    go_ret
    exact ⟨rfl, rfl⟩
theorem cmpL_step {a b : Int} {l m : List Int} : cmpL (a :: l) (b :: m) = if cmp1 a b = 0 then cmpL l m else cmp1 a b := by
  unfold cmp1
  simp only [cmpL]
  split
  · simp
  · split <;> simp
theorem cmpL_drop {l m : List Int} {k : Nat} (hl : k < l.length) (hm : k < m.length) : cmpL (l.drop k) (m.drop k) = if cmp1 (l.getD k 0) (m.getD k 0) = 0 then cmpL (l.drop (k + 1)) (m.drop (k + 1)) else cmp1 (l.getD k 0) (m.getD k 0) := by
  rw [List.drop_eq_getElem_cons hl, List.drop_eq_getElem_cons hm, cmpL_step, List.getD_eq_getElem?_getD, List.getElem?_eq_getElem hl, List.getD_eq_getElem?_getD, List.getElem?_eq_getElem hm]
  rfl
set_option maxHeartbeats 2000000 in
theorem compare_any (A : Option Addr) (n c : Nat) (l : List Int) (A2 : Option Addr) (n2 c2 : Nat) (l2 : List Int) (w : World) (hr : Rd w .i64 A n c l) (hr2 : Rd w .i64 A2 n2 c2 l2) :
    Calls Try.prog 27 #[.slice A n c, .slice A2 n2 c2] w fun e w' => e = .returned (.int .i64 (cmpL l l2)) ∧ w = w' := by
  have h1 := hr.le
  have h2 := hr.small
  have h3 := hr2.le
  have h4 := hr2.small
  have R := Lib.hid hr
  have R2 := Lib.hid hr2
  have L := Lib.hid hr.len
  have L2 := Lib.hid hr2.len
  clear hr hr2
  go_enter Try.func27, Try.ntmps27
  go_wp2_with fail
  go_loop [11] (fun i => ∃ k : Nat, k ≤ n ∧ k ≤ n2 ∧ i = .int .i64 k ∧ cmpL l l2 = cmpL (l.drop k) (l2.drop k)) (fun i => n - (intOf i).toNat)
  case atStart => exact ⟨0, Nat.zero_le _, Nat.zero_le _, rfl, rfl⟩
  case round =>
    obtain ⟨k, hk, hk2, rfl, heq⟩ := hrel
    have E := Lib.hid heq
    clear heq
    by_cases hlt : k < n
    · obtain ⟨ad, rfl, hc⟩ := R.out.cell k hlt
      have hkn : (k : Int) < n := by omega
      by_cases hlt2 : k < n2
      · obtain ⟨ad2, rfl, hc2⟩ := R2.out.cell k hlt2
        obtain ⟨x, hx⟩ : ∃ x, x = l.getD k 0 := ⟨_, rfl⟩
        obtain ⟨y, hy⟩ : ∃ y, y = l2.getD k 0 := ⟨_, rfl⟩
        rw [← hx] at hc
        rw [← hy] at hc2
        have hs := cmpL_drop (l := l) (m := l2) (k := k) (by rw [L.out]; exact hlt) (by rw [L2.out]; exact hlt2)
        rw [← hx, ← hy, ← E.out] at hs
        have HS := Lib.hid hs
        obtain ⟨z, hz⟩ : ∃ z, z = cmp1 x y := ⟨_, rfl⟩
        have HZ := Lib.hid hz
        clear hx hy hs hz
        have hd1 : decide ((n2 : Int) ≤ k) = false := decide_eq_false (by omega)
        go_wp2_with fail
        refine (cmp1_any x y _).mono ?_
        rintro e w1 ⟨rfl, rfl⟩
        rw [← HZ.out]
        by_cases hz0 : z = 0
        · subst hz0
          go_wp2
          go_round
          case rel => exact ⟨k + 1, by omega, by omega, by go_num, by rw [HS.out, ← HZ.out, if_pos rfl]⟩
          case measure => simp [intOf]; omega
        · have hdz : decide (z = 0) = false := decide_eq_false hz0
          have hdz2 : (z == 0) = false := by rw [beq_eq_false_iff_ne]; exact hz0
          have HN := Lib.hid hz0
          clear hz0
          go_wp2
          go_ret
          exact ⟨by rw [HS.out, ← HZ.out, if_neg HN.out]; rfl, rfl⟩
      · have hkk : k = n2 := by omega
        have hd1 : decide ((n2 : Int) ≤ k) = true := decide_eq_true (by omega)
        have e : cmpL l l2 = 1 := by
          rw [E.out, List.drop_of_length_le (l := l2) (by rw [L2.out]; omega), List.drop_eq_getElem_cons (by rw [L.out]; exact hlt)]
          rfl
        have HE := Lib.hid e
        clear e hkk
        go_wp2
        go_ret
        exact ⟨by rw [HE.out]; rfl, rfl⟩
    · have hkk : k = n := by omega
      have hkn : ¬ (k : Int) < n := by omega
      by_cases hlt2 : n < n2
      · have hd1 : decide ((n : Int) < n2) = true := decide_eq_true (by omega)
        have e : cmpL l l2 = -1 := by
          rw [E.out, List.drop_of_length_le (l := l) (by rw [L.out]; omega), List.drop_eq_getElem_cons (by rw [L2.out]; omega)]
          rfl
        have HE := Lib.hid e
        clear e hkk
        go_wp2
        go_ret
        exact ⟨by rw [HE.out]; rfl, rfl⟩
      · have hd1 : decide ((n : Int) < n2) = false := decide_eq_false (by omega)
        have e : cmpL l l2 = 0 := by
          rw [E.out, List.drop_of_length_le (l := l) (by rw [L.out]; omega), List.drop_of_length_le (by rw [L2.out]; omega)]
          rfl
        have HE := Lib.hid e
        clear e hkk
        go_wp2
        go_ret
        exact ⟨by rw [HE.out]; rfl, rfl⟩
end Go.Proofs.Ytbfnjfmnblafaaa.Qry
