/- The walk of CrcParts. -/
import Derived.Test.YtofmjnjcegcbbaaLaws
namespace Go.Proofs.Ytofmjnjcegcbbaa.Crc
open Go.RowKit CrcMath

set_option maxHeartbeats 4000000 in
theorem CrcParts_walk (A : Option Addr) (n c : Nat) (za : List Int) (A2 : Option Addr) (n2 c2 : Nat) (zb : List Int) (A3 : Option Addr) (n3 c3 : Nat) (zc : List Int) (w : World)
    (h1 : IsRow .u8 w A n c za) (b1 : n * 1 ≤ 140737488351232) (h2 : IsRow .u8 w A2 n2 c2 zb) (b2 : n2 * 1 ≤ 140737488351232) (h3 : IsRow .u8 w A3 n3 c3 zc) (b3 : n3 * 1 ≤ 140737488351232) :
    Calls Try.prog 4 #[.slice A n c, .slice A2 n2 c2, .slice A3 n3 c3] w fun e w' => e = .returned (.bool true) ∧ Below w.heap.size w w' := by
  have hr1 := h1.rd
  have hr2 := h2.rd
  have hr3 := h3.rd
  have hb1 := h1.bytes
  have hb2 := h2.bytes
  have hb3 := h3.bytes
  obtain ⟨la, hla⟩ : ∃ l, l = za.take n := ⟨_, rfl⟩
  obtain ⟨lb, hlb⟩ : ∃ l, l = zb.take n2 := ⟨_, rfl⟩
  obtain ⟨lc, hlc⟩ : ∃ l, l = zc.take n3 := ⟨_, rfl⟩
  rw [← hla] at hr1 hb1
  rw [← hlb] at hr2 hb2
  rw [← hlc] at hr3 hb3
  clear h1 h2 h3 hla hlb hlc
  have R1 := Lib.hid hr1
  have R2 := Lib.hid hr2
  have R3 := Lib.hid hr3
  have Y1 := Lib.hid hb1
  have Y2 := Lib.hid hb2
  have Y3 := Lib.hid hb3
  clear hr1 hr2 hr3 hb1 hb2 hb3
  by_cases h9 : (9000 : Int) < (n : Int) + n2 + n3
  · have hd : decide ((9000 : Int) < (n : Int) + n2 + n3) = true := decide_eq_true h9
    go_enter Try.func4, Try.ntmps4
    go_wp2_with fail
    refine (head_any _).mono ?_
    rintro e w1 ⟨rfl, hb1⟩
    go_wp2
    go_ret
    exact ⟨rfl, hb1⟩
  · have hd : decide ((9000 : Int) < (n : Int) + n2 + n3) = false := decide_eq_false h9
    have hbab : Bytes (la ++ lb) := fun x hx => (List.mem_append.1 hx).elim (Y1.out x) (Y2.out x)
    have hball : Bytes (la ++ lb ++ lc) := fun x hx => (List.mem_append.1 hx).elim (hbab x) (Y3.out x)
    have YAB := Lib.hid hbab
    have YALL := Lib.hid hball
    clear hbab hball
    go_enter Try.func4, Try.ntmps4
    go_wp2_with fail
    refine (head_any _).mono ?_
    rintro e w1 ⟨rfl, hb1⟩
    have B1 := Lib.hid hb1
    clear hb1
    go_wp2_with (first
      | (at_builtin; refine append_rd rfl (.tmp 20) (.tmp 21) rfl w1.heap.size _ 0 [] rfl (Own.empty w1 .u8 5 (Nat.le_refl _)) A n c la rfl ((R1.out.below B1.out).below ((Below.refl _ _).alloc (Nat.le_refl _) _)) (by omega) (by simp) ?_; intro v2 w2 hown hg; have O2 := Lib.hid hown; have X2 := Lib.hid (below_grown ((Below.refl w1.heap.size w1).alloc (Nat.le_refl _) _) hg (by simp) (Own.empty w1 .u8 5 (Nat.le_refl _)).ge); clear hown hg)
      | (at_builtin; refine append_rd rfl (.tmp 22) (.tmp 23) rfl w1.heap.size _ _ _ rfl O2.out A2 n2 c2 lb rfl ((R2.out.below B1.out).below X2.out) (by omega) X2.out.size ?_; intro v3 w3 hown hg; have O3 := Lib.hid hown; have X3 := Lib.hid (below_grown X2.out hg X2.out.size O2.out.ge); clear hown hg)
      | (at_builtin; refine append_rd rfl (.tmp 24) (.tmp 25) rfl w1.heap.size _ _ _ rfl O3.out A3 n3 c3 lc rfl ((R3.out.below B1.out).below X3.out) (by omega) X3.out.size ?_; intro v4 w4 hown hg; have hrd := hown.rd; obtain ⟨A4, c4, rfl, hr4, _⟩ := hrd; simp only [Nat.zero_add, List.nil_append] at hr4; have R4 := Lib.hid hr4; have X4 := Lib.hid (below_trans B1.out (below_grown X3.out hg X3.out.size O3.out.ge) B1.out.size); clear hown hg hr4))
    refine (of_any A4 (n + n2 + n3) c4 (la ++ lb ++ lc) _ R4.out YALL.out).mono ?_
    rintro e w5 ⟨rfl, hb5⟩
    rw [more_append, more_append]
    have X5 := Lib.hid (below_trans X4.out hb5 X4.out.size)
    have R5 := Lib.hid (R4.out.below hb5)
    clear hb5
    go_wp2_with fail
    refine (of_any A n c la _ (R1.out.below X5.out) Y1.out).mono ?_
    rintro e w6 ⟨rfl, hb6⟩
    have X6 := Lib.hid (below_trans X5.out hb6 X5.out.size)
    have R6 := Lib.hid (R5.out.below hb6)
    clear hb6
    go_wp2_with fail
    refine (more_any _ A2 n2 c2 lb _ (R2.out.below X6.out) Y2.out).mono ?_
    rintro e w7 ⟨rfl, hb7⟩
    have X7 := Lib.hid (below_trans X6.out hb7 X6.out.size)
    have R7 := Lib.hid (R6.out.below hb7)
    clear hb7
    go_wp2_with fail
    refine (more_any _ A3 n3 c3 lc _ (R3.out.below X7.out) Y3.out).mono ?_
    rintro e w8 ⟨rfl, hb8⟩
    have X8 := Lib.hid (below_trans X7.out hb8 X7.out.size)
    have R8 := Lib.hid (R7.out.below hb8)
    clear hb8
    go_wp2_with fail
    refine (of_any A4 (n + n2 + n3) c4 (la ++ lb ++ lc) _ R8.out YALL.out).mono ?_
    rintro e w9 ⟨rfl, hb9⟩
    rw [more_append, more_append]
    have X9 := Lib.hid (below_trans X8.out hb9 X8.out.size)
    clear hb9
    go_wp2_with (first
      | (at_builtin; refine append_rd rfl (.tmp 42) (.tmp 43) rfl w9.heap.size _ 0 [] rfl (Own.empty w9 .u8 5 (Nat.le_refl _)) A n c la rfl ((R1.out.below X9.out).below ((Below.refl _ _).alloc (Nat.le_refl _) _)) (by omega) (by simp) ?_; intro v10 w10 hown hg; have O10 := Lib.hid hown; have X10 := Lib.hid (below_grown ((Below.refl w9.heap.size w9).alloc (Nat.le_refl _) _) hg (by simp) (Own.empty w9 .u8 5 (Nat.le_refl _)).ge); clear hown hg)
      | (at_builtin; refine append_rd rfl (.tmp 44) (.tmp 45) rfl w9.heap.size _ _ _ rfl O10.out A2 n2 c2 lb rfl ((R2.out.below X9.out).below X10.out) (by omega) X10.out.size ?_; intro v11 w11 hown hg; have hrd := hown.rd; obtain ⟨A11, c11, rfl, hr11, _⟩ := hrd; simp only [Nat.zero_add, List.nil_append] at hr11; have R11 := Lib.hid hr11; have X11 := Lib.hid (below_trans X9.out (below_grown X10.out hg X10.out.size O10.out.ge) X9.out.size); clear hown hg hr11))
    refine (of_any A11 (n + n2) c11 (la ++ lb) _ R11.out YAB.out).mono ?_
    rintro e w12 ⟨rfl, hb12⟩
    rw [more_append]
    have X12 := Lib.hid (below_trans X11.out hb12 X11.out.size)
    clear hb12
    go_wp2_with fail
    refine (more_any _ A3 n3 c3 lc _ (R3.out.below X12.out) Y3.out).mono ?_
    rintro e w13 ⟨rfl, hb13⟩
    have X13 := Lib.hid (below_trans X12.out hb13 X12.out.size)
    clear hb13
    go_wp2
    go_ret
    exact ⟨rfl, X13.out⟩
end Go.Proofs.Ytofmjnjcegcbbaa.Crc
