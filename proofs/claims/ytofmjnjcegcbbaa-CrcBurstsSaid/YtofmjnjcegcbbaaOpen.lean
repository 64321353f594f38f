/- crc.Open. -/
import Derived.Test.YtofmjnjcegcbbaaSeal
namespace Go.Proofs.Ytofmjnjcegcbbaa.Crc
open Go.RowKit CrcMath

/-- What Open hands back: a row of its own, and whether. -/
def OpenPost (w : World) (b : Bool) (l : List Int) (e : Ending) (w' : World) : Prop :=
  (∃ v m, e = .returned (.tuple #[v, .bool b]) ∧ Own w' .u8 5 w.heap.size v m l) ∧ Below w.heap.size w w'
set_option maxHeartbeats 1000000 in
theorem open_any (A : Option Addr) (n c : Nat) (l : List Int) (w : World) (hr : Rd w .u8 A n c l) (hbs : Bytes l) (hn : n ≤ 1000000) :
    Calls Try.prog 10 #[.slice A n c] w (OpenPost w (opens l) (inner l)) := by
  have hll := hr.len
  by_cases h4 : n < 4
  · have ho : opens l = false := by unfold opens; rw [hll]; exact decide_eq_false (fun h => by omega)
    have hi : inner l = [] := by unfold inner; rw [ho]; rfl
    rw [ho, hi]
    clear hr hbs ho hi hll
    go_enter Try.func10, Try.ntmps10
    go_wp2
    go_ret2
    exact ⟨⟨_, 0, rfl, World.ownsRow_nil _ _ _ _⟩, Below.refl _ _⟩
  · obtain ⟨m, rfl⟩ : ∃ m, n = m + 4 := ⟨n - 4, by omega⟩
    have hm : l.length - 4 = m := by omega
    have htake := hr.take m (by omega)
    have hc : m ≤ c := by have := hr.le; omega
    have hbt := take_bytes hbs m
    have ho : opens l = decide (shut (l.take m) = l) := by
      unfold opens
      rw [hm]
      exact decide_eq_decide.2 ⟨fun h => h.2, fun h => ⟨by omega, h⟩⟩
    have hi : inner l = if decide (shut (l.take m) = l) then l.take m else [] := by unfold inner; rw [ho, hm]
    rw [ho, hi]
    have HR := Lib.hid hr
    have HT := Lib.hid htake
    have HB := Lib.hid hbs
    have HBT := Lib.hid hbt
    clear hr htake hbs hbt ho hi hll hm h4
    obtain ⟨q, hq⟩ : ∃ q, q = decide (shut (l.take m) = l) := ⟨_, rfl⟩
    rw [← hq]
    have HQ := Lib.hid hq
    clear hq
    cases q with
    | false =>
      go_enter Try.func10, Try.ntmps10
      go_wp2_with fail
      refine (seal_any A m c (l.take m) _ HT.out HBT.out (by omega)).mono ?_
      rintro e w1 ⟨⟨v1, rfl, ho1⟩, hb1⟩
      obtain ⟨A1, c1, rfl, hr1, _⟩ := ho1.rd
      have HR1 := Lib.hid hr1
      have HB1 := Lib.hid hb1
      clear hr1 hb1 ho1
      go_wp2_with fail
      refine (equal_any A1 A _ c1 _ c _ l _ HR1.out (HR.out.below HB1.out) (shut_bytes HBT.out) HB.out).mono ?_
      rintro e w2 ⟨rfl, rfl⟩
      rw [← HQ.out]
      go_wp2
      go_ret2
      exact ⟨⟨_, 0, rfl, World.ownsRow_nil _ _ _ _⟩, HB1.out⟩
    | true =>
      go_enter Try.func10, Try.ntmps10
      go_wp2_with fail
      refine (seal_any A m c (l.take m) _ HT.out HBT.out (by omega)).mono ?_
      rintro e w1 ⟨⟨v1, rfl, ho1⟩, hb1⟩
      obtain ⟨A1, c1, rfl, hr1, _⟩ := ho1.rd
      have HR1 := Lib.hid hr1
      have HB1 := Lib.hid hb1
      clear hr1 hb1 ho1
      go_wp2_with fail
      refine (equal_any A1 A _ c1 _ c _ l _ HR1.out (HR.out.below HB1.out) (shut_bytes HBT.out) HB.out).mono ?_
      rintro e w2 ⟨rfl, rfl⟩
      rw [← HQ.out]
      go_wp2_with fail
      refine (clone_any A m c (l.take m) _ (HT.out.below HB1.out) (by omega)).mono ?_
      rintro e w3 ⟨⟨v3, rfl, ho3⟩, hb3⟩
      have HO3 := Lib.hid ho3
      have HB3 := Lib.hid (below_trans HB1.out hb3 HB1.out.size)
      clear ho3 hb3
      go_wp2
      go_ret2
      exact ⟨⟨_, m, rfl, HO3.out.lower HB1.out.size⟩, HB3.out⟩
end Go.Proofs.Ytofmjnjcegcbbaa.Crc
