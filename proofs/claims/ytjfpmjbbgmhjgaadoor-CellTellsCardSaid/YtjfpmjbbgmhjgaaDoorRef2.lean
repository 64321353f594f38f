/- turntableref02.Of, Seal, Open. -/
import Derived.Test.YtjfpmjbbgmhjgaaDoorRef
import Derived.Deep.RegionWith
namespace Go.Proofs.YtjfpmjbbgmhjgaaDoor.Crc
open Go.RowKit CrcMath

set_option maxHeartbeats 400000 in
theorem refof_any (A : Option Addr) (n c : Nat) (l : List Int) (w : World) (hr : Rd w .u8 A n c l) (hbs : Bytes l) (hn : n ≤ 1000000) :
    Calls Tryd.prog 20 #[.slice A n c] w fun e w' => e = .returned (.int .u32 (N (more 0#32 l))) ∧ w = w' := by
  have h0 : (N 0#32) = 0 := rfl
  have hm := refmore_any 0#32 A n c l w hr hbs hn
  rw [h0] at hm
  have HM := Lib.hid hm
  clear hm hr hbs h0
  go_enter Tryd.func20, Tryd.ntmps20
  go_wp2_with fail
  refine HM.out.mono ?_
  rintro e w1 ⟨rfl, rfl⟩
  go_wp2
  go_ret
  exact ⟨rfl, rfl⟩

/-- One row of the call's own is handed back. -/
def RowPost (w : World) (n : Nat) (l : List Int) (e : Ending) (w' : World) : Prop :=
  (∃ v, e = .returned v ∧ Own w' .u8 5 w.heap.size v n l) ∧ Below w.heap.size w w'
end Go.Proofs.YtjfpmjbbgmhjgaaDoor.Crc
