/- The walks of the laws of layer 2. -/
import Derived.Test.YtofmjnjcegcbbaaHead
import Derived.OpenShut
namespace Go.Proofs.Ytofmjnjcegcbbaa.Crc
open Go.RowKit CrcMath

/-- How the row's slice comes in. -/
def IsRow (k : IntKind) (w : World) (a : Option Addr) (len cap : Nat) (zs : List Int) : Prop :=
  (a = none ∧ len = 0 ∧ cap = 0 ∧ zs = []) ∨
  ∃ x, a = some x ∧ len ≤ cap ∧ cap ≤ maxLen ∧ zs.length = cap ∧ (∀ i, i < zs.length → w.cell? (x.add i) = some (.int k (zs.getD i 0))) ∧ ∀ n ∈ zs, (Lit.int k n).wf = true
theorem IsRow.rd {k : IntKind} {w : World} {a : Option Addr} {len cap : Nat} {zs : List Int} (h : IsRow k w a len cap zs) : Rd w k a len cap (zs.take len) := by
  rcases h with ⟨rfl, rfl, rfl, rfl⟩ | ⟨x, rfl, h1, h2, h3, h4, _⟩
  · exact Rd.void _ _
  · refine ⟨by rw [List.length_take]; omega, h1, by simpa [maxLen] using h2, (fun e => by cases e), fun ad e h0 => ?_⟩
    cases e
    have hc := h4 0 (by omega)
    rw [show x.add 0 = x from rfl] at hc
    have hs : x.spot = none := by
      unfold World.cell? at hc
      cases hsp : x.spot with
      | none => rfl
      | some s =>
        rw [hsp] at hc
        split at hc
        · simp at hc
        · cases hc
    obtain ⟨b, o, s⟩ := x
    simp only at hs
    subst hs
    refine ⟨b, o, rfl, fun j hj => ?_⟩
    have := h4 j (by omega)
    rw [add_off] at this
    rw [this, List.getD_eq_getElem?_getD, List.getD_eq_getElem?_getD, List.getElem?_take, if_pos hj]
theorem IsRow.bytes {w : World} {a : Option Addr} {len cap : Nat} {zs : List Int} (h : IsRow .u8 w a len cap zs) : Bytes (zs.take len) := by
  intro x hx
  rcases h with ⟨_, _, _, rfl⟩ | ⟨_, _, _, _, _, _, h6⟩
  · simp at hx
  · have := bounds_u8 (h6 x (List.mem_of_mem_take hx))
    omega

set_option maxHeartbeats 1000000 in
theorem CrcMore_walk (s t : Int) (A : Option Addr) (n c : Nat) (zs : List Int) (w : World) (hs : (Lit.int .u32 s).wf = true) (ht : (Lit.int .u32 t).wf = true) (hz : IsRow .u8 w A n c zs) (_ : n * 1 ≤ 140737488351232) :
    Calls Try.prog 8 #[.int .u32 s, .int .u32 t, .slice A n c] w fun e w' => e = .returned (.bool true) ∧ Below w.heap.size w w' := by
  have hr := hz.rd
  have hb := hz.bytes
  obtain ⟨l, hl⟩ : ∃ l, l = zs.take n := ⟨_, rfl⟩
  rw [← hl] at hr hb
  have hs2 := bounds_u32 hs
  have ht2 := bounds_u32 ht
  obtain ⟨x, rfl⟩ : ∃ x, s = N x := ⟨_, (N_of (by omega) (by omega)).symm⟩
  obtain ⟨y, rfl⟩ : ∃ y, t = N y := ⟨_, (N_of (by omega) (by omega)).symm⟩
  have hn := Nat.le_trans hr.le hr.small
  have HR := Lib.hid hr
  have HB := Lib.hid hb
  clear hz hl hr hb hs ht hs2 ht2
  by_cases h9 : (9000 : Int) < n
  · have hd : decide ((9000 : Int) < n) = true := decide_eq_true h9
    have hd2 : decide (9000 < n) = true := decide_eq_true (by omega)
    go_enter Try.func8, Try.ntmps8
    go_wp2_with fail
    refine (head_any _).mono ?_
    rintro e w1 ⟨rfl, hb1⟩
    go_wp2
    go_ret
    exact ⟨rfl, hb1⟩
  · have hd : decide ((9000 : Int) < n) = false := decide_eq_false h9
    have hd2 : decide (9000 < n) = false := decide_eq_false (by omega)
    have hq : ((N (more x l) == N (more y l)) == (N x == N y)) = true := by
      by_cases hxy : x = y
      · subst hxy; simp
      · have h1 : N x ≠ N y := fun h => hxy (N_inj h)
        have h2 : N (more x l) ≠ N (more y l) := fun h => hxy (more_inj l (N_inj h))
        rw [beq_eq_false_iff_ne.2 h1, beq_eq_false_iff_ne.2 h2]; rfl
    have HQ := Lib.hid hq
    clear hq
    go_enter Try.func8, Try.ntmps8
    go_wp2_with fail
    refine (head_any _).mono ?_
    rintro e w1 ⟨rfl, hb1⟩
    have HB1 := Lib.hid hb1
    clear hb1
    go_wp2_with fail
    refine (more_any x none 0 0 [] _ (Rd.void _ _) (fun _ h => by cases h)).mono ?_
    rintro e w2 ⟨rfl, hb2⟩
    rw [more_nil]
    have HB2 := Lib.hid (below_trans HB1.out hb2 HB1.out.size)
    clear hb2
    go_wp2_with fail
    refine (more_any x A n c l _ (HR.out.below HB2.out) HB.out).mono ?_
    rintro e w3 ⟨rfl, hb3⟩
    have HB3 := Lib.hid (below_trans HB2.out hb3 HB2.out.size)
    clear hb3
    go_wp2_with fail
    refine (more_any y A n c l _ (HR.out.below HB3.out) HB.out).mono ?_
    rintro e w4 ⟨rfl, hb4⟩
    have HB4 := Lib.hid (below_trans HB3.out hb4 HB3.out.size)
    clear hb4
    go_wp2
    go_ret
    exact ⟨by rw [HQ.out]; rfl, HB4.out⟩
end Go.Proofs.Ytofmjnjcegcbbaa.Crc
