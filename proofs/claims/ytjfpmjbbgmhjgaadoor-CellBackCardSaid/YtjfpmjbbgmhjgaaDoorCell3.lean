/- bytes.Trim of zeros. -/
import Derived.Test.YtjfpmjbbgmhjgaaDoorCell2
import Derived.Test.YtjfpmjbbgmhjgaaDoorFlowTail
namespace Go.Proofs.YtjfpmjbbgmhjgaaDoor.Crc
open Go.RowKit CrcMath

/-- Does a row hold anything but zeros? -/
def some1 (l : List Int) : Bool := l.any (· != 0)
theorem some1_iff {l : List Int} {n : Nat} (hn : l.length = n) : some1 l = true ↔ ∃ j, j < n ∧ l.getD j 0 ≠ 0 := by
  unfold some1
  rw [List.any_eq_true]
  constructor
  · rintro ⟨x, hx, hne⟩
    obtain ⟨j, hj, rfl⟩ := List.mem_iff_getElem.1 hx
    have e : l.getD j 0 = l[j] := by rw [List.getD_eq_getElem?_getD, List.getElem?_eq_getElem hj]; rfl
    exact ⟨j, by omega, by rw [e]; simpa using hne⟩
  · rintro ⟨j, hj, hne⟩
    have hj2 : j < l.length := by omega
    rw [List.getD_eq_getElem?_getD, List.getElem?_eq_getElem hj2] at hne
    exact ⟨l[j], List.getElem_mem hj2, by simpa using hne⟩
theorem trim_iff {l : List Int} {n m : Nat} (hn : l.length = n) (hm : m ≤ n) (hz : ∀ j, m ≤ j → j < n → l.getD j 0 = 0) (_ : 0 < m → l.getD (m - 1) 0 ≠ 0) : some1 l = true ↔ ∃ j, j < m ∧ (l.take m).getD j 0 ≠ 0 := by
  rw [some1_iff hn]
  have e : ∀ j, j < m → (l.take m).getD j 0 = l.getD j 0 := by
    intro j hj
    rw [List.getD_eq_getElem?_getD, List.getElem?_take, if_pos hj, ← List.getD_eq_getElem?_getD]
  constructor
  · rintro ⟨j, hj, hne⟩
    rcases Nat.lt_or_ge j m with h | h
    · exact ⟨j, h, by rw [e j h]; exact hne⟩
    · exact absurd (hz j h hj) hne
  · rintro ⟨j, hj, hne⟩
    exact ⟨j, by omega, by rw [← e j hj]; exact hne⟩
def G18 (A : Option Addr) (n c : Nat) (l : List Int) : Nat → Value → World → Prop
  | 0 => fun v _ => v = .slice A n c
  | 1 => fun v _ => v = .string ⟨#[0]⟩
  | 2 => fun v _ => v = .int .u8 0
  | 3 => fun v _ => TrimR A n c l (.returned v)
  | 4 => fun v _ => v = .string ⟨#[0]⟩
  | 5 => fun v _ => v = .int .u8 0
  | 6 => fun v _ => TrimL n (some1 l) (.returned v)
  | 7 => fun v _ => TrimL n (some1 l) (.returned v)
  | _ => fun _ _ => True
theorem G18_stable (A : Option Addr) (n c : Nat) (l : List Int) : ∀ i v w w', G18 A n c l i v w → Below w.heap.size w w' → G18 A n c l i v w' := by
  intro i v w w' h hb
  match i, h with
  | 0, h => exact h
  | 1, h => exact h
  | 2, h => exact h
  | 3, h => exact h
  | 4, h => exact h
  | 5, h => exact h
  | 6, h => exact h
  | 7, h => exact h
  | _ + 8, _ => exact trivial
set_option maxHeartbeats 2000000 in
set_option maxRecDepth 100000 in
theorem trim_any (A : Option Addr) (n c : Nat) (l : List Int) (w : World) (hr : Rd w .u8 A n c l) :
    Calls Tryd.prog 18 #[.slice A n c, .string ⟨#[0]⟩] w fun e w' => TrimL n (some1 l) e ∧ Below w.heap.size w w' := by
  have hcap := hr.small
  have hle := hr.le
  by_cases h0 : n = 0
  · subst h0
    have hl := some1_iff hr.len
    have HL := Lib.hid hl
    clear hl hr
    go_enter Tryd.func18, Tryd.ntmps18
    go_wp2
    go_ret
    exact ⟨⟨none, 0, 0, rfl, ⟨fun h => absurd h (Nat.lt_irrefl 0), fun h => by obtain ⟨j, hj, _⟩ := HL.out.1 h; omega⟩, Nat.le_refl _⟩, Below.refl _ _⟩
  · have hn : decide ((n : Int) = 0) = false := decide_eq_false (by omega)
    have hn2 : ((n : Int) == 0) = false := by rw [beq_eq_false_iff_ne]; omega
    have R := Lib.hid hr
    clear hr
    have hb0 : ((⟨#[0]⟩ : ByteArray)[0].toNat : Int) = 0 := rfl
    have hb1 : decide (((⟨#[0]⟩ : ByteArray)[0].toNat : Int) < 128) = true := rfl
    go_enter Tryd.func18, Tryd.ntmps18
    go_wp2_with fail
    refine Flow.wp_region_flow (by kernel_rfl) (G18 A n c l) (by kernel_rfl) (G18_stable A n c l) ?loc ?fin
    case loc =>
      intro i o ho a w hw hk
      match i, ho with
      | 0, ho =>
        have ho2 := Option.some.inj ho; clear ho; subst ho2
        have r0 : a.tmps.getD 0 undef = .slice A n c := (hk 0 (Flow.mem_looks (by kernel_rfl))).before (by kernel_rfl)
        rw [if_pos (Flow.wanted_free rfl _)]
        refine Flow.step_value (v := .slice A n c) ?_ ⟨Below.refl _ _, rfl⟩
        simp [execOp, Act.eval, r0, go_sem]
      | 1, ho =>
        have ho2 := Option.some.inj ho; clear ho; subst ho2
        have r1 : a.tmps.getD 1 undef = .string ⟨#[0]⟩ := (hk 1 (Flow.mem_looks (by kernel_rfl))).before (by kernel_rfl)
        rw [if_pos (Flow.wanted_free rfl _)]
        refine Flow.step_value (v := .string ⟨#[0]⟩) ?_ ⟨Below.refl _ _, rfl⟩
        simp [execOp, Act.eval, r1, go_sem]
      | 2, ho =>
        have ho2 := Option.some.inj ho; clear ho; subst ho2
        have r22 : a.tmps.getD 22 undef = .string ⟨#[0]⟩ := (hk 22 (Flow.mem_looks (by kernel_rfl))).by_ 1 (by kernel_rfl) (by decide)
        rw [if_pos (Flow.wanted_free rfl _)]
        refine Flow.step_value (v := .int .u8 0) ?_ ⟨Below.refl _ _, rfl⟩
        simp [execOp, Act.eval, r22, go_sem]
        rfl
      | 3, ho =>
        have ho2 := Option.some.inj ho; clear ho; subst ho2
        have r21 : a.tmps.getD 21 undef = .slice A n c := (hk 21 (Flow.mem_looks (by kernel_rfl))).by_ 0 (by kernel_rfl) (by decide)
        have r23 : a.tmps.getD 23 undef = .int .u8 0 := (hk 23 (Flow.mem_looks (by kernel_rfl))).by_ 2 (by kernel_rfl) (by decide)
        rw [if_pos (Flow.wanted_free rfl _)]
        refine Flow.step_call (f := 26) (args := #[.slice A n c, .int .u8 0]) (by simp [execOp, Act.eval, r21, r23, go_sem]) ?_
        refine (trimr_any A n c l _ (R.out.below hw)).mono ?_
        rintro e w1 ⟨h1, rfl⟩
        obtain ⟨m, hm, rfl, h2, h3⟩ := h1
        exact ⟨_, rfl, Below.refl _ _, m, hm, rfl, h2, h3⟩
      | 4, ho =>
        have ho2 := Option.some.inj ho; clear ho; subst ho2
        have r1 : a.tmps.getD 1 undef = .string ⟨#[0]⟩ := (hk 1 (Flow.mem_looks (by kernel_rfl))).before (by kernel_rfl)
        rw [if_pos (Flow.wanted_free rfl _)]
        refine Flow.step_value (v := .string ⟨#[0]⟩) ?_ ⟨Below.refl _ _, rfl⟩
        simp [execOp, Act.eval, r1, go_sem]
      | 5, ho =>
        have ho2 := Option.some.inj ho; clear ho; subst ho2
        have r25 : a.tmps.getD 25 undef = .string ⟨#[0]⟩ := (hk 25 (Flow.mem_looks (by kernel_rfl))).by_ 4 (by kernel_rfl) (by decide)
        rw [if_pos (Flow.wanted_free rfl _)]
        refine Flow.step_value (v := .int .u8 0) ?_ ⟨Below.refl _ _, rfl⟩
        simp [execOp, Act.eval, r25, go_sem]
        rfl
      | 6, ho =>
        have ho2 := Option.some.inj ho; clear ho; subst ho2
        have r24 := (hk 24 (Flow.mem_looks (by kernel_rfl))).by_ 3 (by kernel_rfl) (by decide)
        have r26 : a.tmps.getD 26 undef = .int .u8 0 := (hk 26 (Flow.mem_looks (by kernel_rfl))).by_ 5 (by kernel_rfl) (by decide)
        rw [if_pos (Flow.wanted_free rfl _)]
        obtain ⟨m, hm, e1, h2, h3⟩ := r24
        have e2 := Ending.returned.inj e1
        refine Flow.step_call (f := 25) (args := #[.slice A m c, .int .u8 0]) (by simp [execOp, Act.eval, e2, r26, go_sem]) ?_
        refine (triml_any A m c (l.take m) _ ((R.out.below hw).take m hm) (some1 l) (trim_iff R.out.len hm h2 h3)).mono ?_
        rintro e w1 ⟨h4, rfl⟩
        obtain ⟨A2, m2, c2, rfl, h5, h6⟩ := h4
        exact ⟨_, rfl, Below.refl _ _, A2, m2, c2, rfl, h5, by omega⟩
      | 7, ho =>
        have ho2 := Option.some.inj ho; clear ho; subst ho2
        have r27 := (hk 27 (Flow.mem_looks (by kernel_rfl))).by_ 6 (by kernel_rfl) (by decide)
        rw [if_pos (Flow.wanted_free rfl _)]
        obtain ⟨A2, m2, c2, e1, h5, h6⟩ := r27
        refine Flow.step_value (v := .slice A2 m2 c2) ?_ ⟨Below.refl _ _, A2, m2, c2, rfl, h5, h6⟩
        have e2 := Ending.returned.inj e1
        simp [execOp, Act.eval, e2, go_sem]
      | _ + 8, ho => exact absurd ho (by simp)
    case fin =>
      intro a w4 hw4 hd4 hs4 hg hold
      obtain ⟨A2, m2, c2, e1, h5, h6⟩ := hg 7 _ 4 rfl rfl
      have e2 := Ending.returned.inj e1
      refine (‹∀ (a : Act) (w : World), Code.wp _ Code.ret _ a w → _›) _ _ ?_
      refine wp_ret ?_
      simp only [Exit.then]
      refine bodyPost_ret (results_tmp rfl _ _ _) hd4 ⟨?_, hw4⟩
      exact ⟨A2, m2, c2, congrArg Ending.returned e2, h5, h6⟩
end Go.Proofs.YtjfpmjbbgmhjgaaDoor.Crc
