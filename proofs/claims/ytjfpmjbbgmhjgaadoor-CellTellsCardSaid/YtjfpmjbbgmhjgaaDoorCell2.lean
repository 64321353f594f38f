/- bytes.Trim of zeros, slices.Grow, slices.Concat. -/
import Derived.Test.YtjfpmjbbgmhjgaaDoorCell1
import Derived.Test.YtjfpmjbbgmhjgaaDoorWZeros
import Derived.Lib.AppendZeros
namespace Go.Proofs.YtjfpmjbbgmhjgaaDoor.Crc
open Go.RowKit CrcMath

theorem addr_add0 (ad : Addr) : ad.add 0 = ad := by
  unfold Addr.add
  split <;> simp_all
/-- A cut from the left by one. -/
theorem rd_cut1 {w : World} {k : IntKind} {A : Option Addr} {n c : Nat} {l : List Int} (h : Rd w k A n c l) (h0 : 0 < n) : ∃ A2, sliced A 1 n c 1 = .slice A2 (n - 1) (c - 1) ∧ Rd w k A2 (n - 1) (c - 1) (l.drop 1) := by
  refine ⟨_, rfl, ?_⟩
  have h1 := h.le
  have h2 := h.small
  refine ⟨by rw [List.length_drop, h.len], by omega, by omega, ?_, ?_⟩
  · intro e
    split at e
    · have := h.nil e; omega
    · cases A with
      | none => have := h.nil rfl; omega
      | some ad => simp at e
  · intro ad e hp
    split at e
    · omega
    · cases A with
      | none => simp at e
      | some a0 =>
        obtain ⟨b, o, rfl, hc⟩ := h.spot a0 rfl h0
        simp only [Option.map_some, Option.some.injEq, Nat.mul_one, add_off] at e
        refine ⟨b, o + 1, e.symm, fun j hj => ?_⟩
        have := hc (j + 1) (by omega)
        rw [show o + (j + 1) = o + 1 + j from by omega] at this
        rw [this, List.getD_eq_getElem?_getD, List.getD_eq_getElem?_getD, List.getElem?_drop, Nat.add_comm 1 j]

def TrimR (A : Option Addr) (n c : Nat) (l : List Int) (e : Ending) : Prop := ∃ m, m ≤ n ∧ e = .returned (.slice A m c) ∧ (∀ j, m ≤ j → j < n → l.getD j 0 = 0) ∧ (0 < m → l.getD (m - 1) 0 ≠ 0)
def TrimL (n : Nat) (b : Bool) (e : Ending) : Prop := ∃ A2 m c2, e = .returned (.slice A2 m c2) ∧ (0 < m ↔ b = true) ∧ m ≤ n
set_option maxHeartbeats 1000000 in
theorem trimr_any (A : Option Addr) (n c : Nat) (l : List Int) (w : World) (hr : Rd w .u8 A n c l) :
    Calls Tryd.prog 26 #[.slice A n c, .int .u8 0] w fun e w' => TrimR A n c l e ∧ w = w' := by
  have hn := hr.le
  have hs := hr.small
  have R := Lib.hid hr
  clear hr
  go_enter Tryd.func26, Tryd.ntmps26
  go_wp2_with fail
  go_loop [0] (fun v => ∃ m : Nat, m ≤ n ∧ v = .slice A m c ∧ (∀ j, m ≤ j → j < n → l.getD j 0 = 0)) (fun v => match v with | .slice _ m _ => m | _ => 0)
  case atStart => exact ⟨n, Nat.le_refl _, rfl, fun j h1 h2 => absurd h1 (by omega)⟩
  case round =>
    obtain ⟨m, hm, rfl, hz⟩ := hrel
    have HZ := Lib.hid hz
    clear hz
    by_cases h0 : 0 < m
    · obtain ⟨ad, rfl, hc⟩ := R.out.cell (m - 1) (by omega)
      obtain ⟨y, hy⟩ : ∃ y, y = l.getD (m - 1) 0 := ⟨_, rfl⟩
      rw [← hy] at hc
      have HY := Lib.hid hy
      clear hy
      have hm1 : IntKind.i64.wrap ((m : Int) - 1) = ((m - 1 : Nat) : Int) := by rw [IntKind.wrap_i64]; omega
      have hp : (0 : Int) < m := by omega
      have hlt : ((m - 1 : Nat) : Int) < m := by omega
      generalize hq : m - 1 = q at *
      by_cases hy0 : y = 0
      · subst hy0
        go_wp2
        refine ⟨⟨q, by omega, rfl, fun j h1 h2 => ?_⟩, by show q < m; omega⟩
        by_cases e : j = q
        · rw [e]; exact HY.out.symm
        · exact HZ.out j (by omega) h2
      · have hd : decide (y = 0) = false := decide_eq_false hy0
        have hd2 : (y == 0) = false := by rw [beq_eq_false_iff_ne]; exact hy0
        have HN := Lib.hid hy0
        clear hy0
        go_wp2
        go_ret
        exact ⟨⟨m, hm, rfl, HZ.out, fun _ => by rw [hq, ← HY.out]; exact HN.out⟩, rfl⟩
    · obtain rfl : m = 0 := by omega
      have hp : ¬ (0 : Int) < ((0 : Nat) : Int) := by omega
      go_wp2
      go_ret
      exact ⟨⟨0, hm, rfl, HZ.out, fun h => absurd h (Nat.lt_irrefl 0)⟩, rfl⟩

/-- How much is left of a row, its zeros on the left gone. -/
def zl (l : List Int) : Nat := (l.dropWhile (· == 0)).length
set_option maxHeartbeats 1000000 in
theorem triml_any (A : Option Addr) (n c : Nat) (l : List Int) (w : World) (hr : Rd w .u8 A n c l) (b : Bool) (hb : b = true ↔ ∃ j, j < n ∧ l.getD j 0 ≠ 0) :
    Calls Tryd.prog 25 #[.slice A n c, .int .u8 0] w fun e w' => TrimL n b e ∧ w = w' := by
  have HB := Lib.hid hb
  have hcap := hr.small
  have hle := hr.le
  have R0 := Lib.hid hr
  clear hr hb
  go_enter Tryd.func25, Tryd.ntmps25
  go_wp2_with fail
  go_loop [0] (fun v => ∃ k A2 c2, k ≤ n ∧ v = .slice A2 (n - k) c2 ∧ Rd w .u8 A2 (n - k) c2 (l.drop k) ∧ (∀ j, j < k → l.getD j 0 = 0)) (fun v => match v with | .slice _ m _ => m | _ => 0)
  case atStart => exact ⟨0, A, c, Nat.zero_le _, rfl, R0.out, fun j h => absurd h (Nat.not_lt_zero j)⟩
  case round =>
    obtain ⟨k, A2, c2, hk, rfl, hr, hz⟩ := hrel
    have HZ := Lib.hid hz
    have R := Lib.hid hr
    have hc2 := hr.small
    have hc3 := hr.le
    clear hz hr
    obtain ⟨m, hm⟩ : ∃ m, m = n - k := ⟨_, rfl⟩
    rw [← hm] at R hc3 ⊢
    have hmn : m ≤ n := by omega
    have HM := Lib.hid hm
    clear hm
    by_cases h0 : 0 < m
    · obtain ⟨ad, rfl, hc⟩ := R.out.cell 0 h0
      obtain ⟨y, hy⟩ : ∃ y, y = (l.drop k).getD 0 0 := ⟨_, rfl⟩
      rw [← hy, addr_add0] at hc
      have hyk : y = l.getD k 0 := by rw [hy, List.getD_eq_getElem?_getD, List.getElem?_drop, ← List.getD_eq_getElem?_getD]; rfl
      have HY := Lib.hid hyk
      clear hy hyk
      have hp : (0 : Int) < m := by omega
      have hp1 : (1 : Int) ≤ m := by omega
      by_cases hy0 : y = 0
      · subst hy0
        obtain ⟨A3, hA3, hr3⟩ := rd_cut1 R.out h0
        have R3 := Lib.hid hr3
        clear hr3
        have hcut : (Instr.slice 22 (.slice (some ad) m c2) (some (.int .i64 1)) none none).run Tryd.prog w = .ok (.slice A3 (m - 1) (c2 - 1)) w := by
          rw [← hA3]
          simp [go_sem, hp1]
        go_wp2
        refine ⟨⟨k + 1, A3, c2 - 1, by have := HM.out; omega, by rw [HM.out, Nat.sub_sub], ?_, fun j h1 => ?_⟩, by show m - 1 < m; omega⟩
        · have := R3.out
          rw [HM.out, Nat.sub_sub, List.drop_drop] at this
          exact this
        · by_cases e : j = k
          · rw [e]; exact HY.out.symm
          · exact HZ.out j (by omega)
      · have hd : decide (y = 0) = false := decide_eq_false hy0
        have hd2 : (y == 0) = false := by rw [beq_eq_false_iff_ne]; exact hy0
        have hm0 : decide ((m : Int) = 0) = false := decide_eq_false (by omega)
        have HN := Lib.hid hy0
        clear hy0
        go_wp2
        go_ret
        exact ⟨⟨some ad, m, c2, rfl, ⟨fun _ => HB.out.2 ⟨k, by have := HM.out; omega, by rw [← HY.out]; exact HN.out⟩, fun _ => h0⟩, by omega⟩, rfl⟩
    · obtain rfl : m = 0 := by omega
      have hp : ¬ (0 : Int) < ((0 : Nat) : Int) := by omega
      go_wp2
      go_ret
      refine ⟨⟨none, 0, 0, rfl, ⟨fun h => absurd h (Nat.lt_irrefl 0), fun h => ?_⟩, Nat.zero_le _⟩, rfl⟩
      obtain ⟨j, hj, hne⟩ := HB.out.1 h
      exact absurd (HZ.out j (by have := HM.out; omega)) hne
end Go.Proofs.YtjfpmjbbgmhjgaaDoor.Crc
