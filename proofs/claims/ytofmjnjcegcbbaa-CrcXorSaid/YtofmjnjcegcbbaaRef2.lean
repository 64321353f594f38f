/- turntableref02.Of, Seal, Open. -/
import Derived.Test.YtofmjnjcegcbbaaRef
import Derived.Deep.RegionWith
namespace Go.Proofs.Ytofmjnjcegcbbaa.Crc
open Go.RowKit CrcMath

set_option maxHeartbeats 400000 in
theorem refof_any (A : Option Addr) (n c : Nat) (l : List Int) (w : World) (hr : Rd w .u8 A n c l) (hbs : Bytes l) (hn : n ≤ 1000000) :
    Calls Try.prog 13 #[.slice A n c] w fun e w' => e = .returned (.int .u32 (N (more 0#32 l))) ∧ w = w' := by
  have h0 : (N 0#32) = 0 := rfl
  have hm := refmore_any 0#32 A n c l w hr hbs hn
  rw [h0] at hm
  have HM := Lib.hid hm
  clear hm hr hbs h0
  go_enter Try.func13, Try.ntmps13
  go_wp2_with fail
  refine HM.out.mono ?_
  rintro e w1 ⟨rfl, rfl⟩
  go_wp2
  go_ret
  exact ⟨rfl, rfl⟩

/-- One row of the call's own is handed back. -/
def RowPost (w : World) (n : Nat) (l : List Int) (e : Ending) (w' : World) : Prop :=
  (∃ v, e = .returned v ∧ Own w' .u8 5 w.heap.size v n l) ∧ Below w.heap.size w w'
set_option maxHeartbeats 1000000 in
theorem refseal_any (A : Option Addr) (n c : Nat) (l : List Int) (w : World) (hr : Rd w .u8 A n c l) (hbs : Bytes l) (hn : n ≤ 1000000) :
    Calls Try.prog 17 #[.slice A n c] w (RowPost w (n + 4) (shut l)) := by
  obtain ⟨x, hx⟩ : ∃ x, x = more 0#32 l := ⟨_, rfl⟩
  have hof := refof_any A n c l w hr hbs hn
  rw [← hx] at hof
  have HOF := Lib.hid hof
  have HX := Lib.hid hx
  have HR := Lib.hid hr
  have hx0 := (N_range x).1
  clear hof hx hr hbs
  go_enter Try.func17, Try.ntmps17
  go_wp2_with fail
  refine HOF.out.mono ?_
  rintro e w1 ⟨rfl, rfl⟩
  have HLE := Lib.hid (show (le x).length ≤ 9223372036854775807 from by rw [le_length]; decide)
  go_wp2_with (first | (at_builtin; refine append_rd rfl (.tmp 6) (.tmp 7) rfl w.heap.size _ 0 [] rfl (Own.empty w .u8 5 (Nat.le_refl _)) A n c l rfl (HR.out.below ((Below.refl _ _).alloc (Nat.le_refl _) _)) (by omega) (by simp) ?_; intro v1 w1 hown hg; have H1 := Lib.hid hown; have H2 := Lib.hid hg; clear hown hg; have hsz : w.heap.size ≤ w1.heap.size := (below_grown ((Below.refl _ _).alloc (Nat.le_refl _) _) H2.out (by simp) (Own.empty w .u8 5 (Nat.le_refl _)).ge).size) | (at_builtin; refine append_rd rfl (.tmp 8) (.tmp 20) rfl w.heap.size _ _ _ rfl (H1.out.alloc _) (some ⟨w1.heap.size, 0, none⟩) 4 4 (le x) rfl (Rd.lit w1 .u8 5 (le x) HLE.out) (by omega) (by simp; omega) ?_; intro v2 w2 hown hg; have H3 := Lib.hid hown; have H4 := Lib.hid hg; clear hown hg))
  go_ret
  have hb1 := below_grown ((Below.refl _ _).alloc (Nat.le_refl _) _) H2.out (by simp) (Own.empty w .u8 5 (Nat.le_refl _)).ge
  refine ⟨⟨_, rfl, ?_⟩, below_grown (hb1.alloc hsz _) H4.out (by simp; omega) H1.out.ge⟩
  have := H3.out
  rw [Nat.zero_add, List.nil_append, HX.out] at this
  exact this
end Go.Proofs.Ytofmjnjcegcbbaa.Crc
