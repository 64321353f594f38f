/- slices.Clone at bytes, crc.Of, crc.Seal, bytes.Equal, crc.Open. -/
import Derived.Test.YtjfpmjbbgmhjgaaDoorMore
import Derived.Test.YtjfpmjbbgmhjgaaDoorApp
namespace Go.Proofs.YtjfpmjbbgmhjgaaDoor.Crc
open Go.RowKit CrcMath

set_option maxHeartbeats 400000 in
theorem clone_any (A : Option Addr) (n c : Nat) (l : List Int) (w : World) (hr : Rd w .u8 A n c l) (hn : n ≤ 1000000) :
    Calls Tryd.prog 19 #[.slice A n c] w fun e w' => (∃ v, e = .returned v ∧ Own w' .u8 5 w.heap.size v n l) ∧ Below w.heap.size w w' := by
  have hq := fun w : World => Lib.run_eql_slice_nil (P := Tryd.prog) w 22 5 A n c 0 0 Tryd.underlying22
  cases A with
  | none =>
    obtain ⟨rfl, rfl, rfl⟩ := hr.len0
    clear hr
    go_enter Tryd.func19, Tryd.ntmps19
    go_wp2
    go_ret
    exact ⟨⟨_, rfl, World.ownsRow_nil _ _ _ _⟩, Below.refl _ _⟩
  | some ad =>
    have HR := Lib.hid hr
    clear hr
    go_enter Tryd.func19, Tryd.ntmps19
    go_wp2_with (refine append_rd rfl (.tmp 5) (.tmp 6) rfl w.heap.size _ 0 [] rfl (Own.empty w .u8 5 (Nat.le_refl _)) (some ad) n c l rfl (HR.out.below ((Below.refl _ _).alloc (Nat.le_refl _) _)) (by omega) (by simp) ?_; intro v' w1 hown hg; have H1 := Lib.hid hown; have H2 := Lib.hid hg; clear hown hg)
    go_ret
    exact ⟨⟨_, rfl, by have := H1.out; simpa using this⟩, below_grown ((Below.refl _ _).alloc (Nat.le_refl _) _) H2.out (by simp) (Own.empty w .u8 5 (Nat.le_refl _)).ge⟩

set_option maxHeartbeats 400000 in
theorem of_any (A : Option Addr) (n c : Nat) (l : List Int) (w : World) (hr : Rd w .u8 A n c l) (hbs : Bytes l) :
    Calls Tryd.prog 23 #[.slice A n c] w fun e w' => e = .returned (.int .u32 (N (more 0#32 l))) ∧ Below w.heap.size w w' := by
  have h0 : (N 0#32) = 0 := rfl
  have hm := more_any 0#32 A n c l w hr hbs
  rw [h0] at hm
  have HM := Lib.hid hm
  clear hm hr hbs h0
  go_enter Tryd.func23, Tryd.ntmps23
  go_wp2_with fail
  refine HM.out.mono ?_
  rintro e w1 ⟨rfl, hb⟩
  go_wp2
  go_ret
  exact ⟨rfl, hb⟩
end Go.Proofs.YtjfpmjbbgmhjgaaDoor.Crc
