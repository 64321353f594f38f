/- SortStableFunc. -/
import Derived.Test.YtclfbjbbdfejkaaOD
namespace Go.Proofs.Ytclfbjbbdfejkaa.Ord
open Go.RowKit

theorem sortStable_any (base g N c : Nat) (L : List Item) (w : World) (hO : OwnI w base (sl g N c) N L) (hN : N ≤ 10000) :
    Calls Try.prog 31 #[sl g N c, fcmp] w (Sorts w base g N c 0 N L) := by
  have HS := Lib.hid (stable_any base g N c L w hO hN)
  clear hO
  go_enter Try.func31, Try.ntmps31
  go_wp2_with fail
  refine HS.out.mono ?_
  rintro r W1 ⟨M1, ⟨rfl, hown1, hgr1⟩, htr1, hsr1⟩
  have OW1 := Lib.hid hown1
  have GR1 := Lib.hid hgr1
  clear hown1 hgr1
  go_wp2
  go_end0
  exact ⟨M1, ⟨rfl, OW1.out, GR1.out⟩, htr1, hsr1⟩
theorem insertion_nil (w : World) : Calls Try.prog 39 #[.slice none 0 0, .int .i64 0, .int .i64 0, fcmp] w fun e w' => e = .returned (.tuple #[]) ∧ Below w.heap.size w w' := by
  go_enter Try.func39, Try.ntmps39
  go_wp2
  go_loopw [8] (fun s wr => s = .int .i64 1 ∧ wr = w) (fun _ _ => 0)
  case atStart => exact ⟨rfl, rfl⟩
  case round =>
    obtain ⟨rfl, rfl⟩ := hrel
    go_wp2
    go_end0
    exact ⟨rfl, Below.refl _ _⟩
theorem stable_nil (w : World) : Calls Try.prog 37 #[.slice none 0 0, .int .i64 0, fcmp] w fun e w' => e = .returned (.tuple #[]) ∧ Below w.heap.size w w' := by
  go_enter Try.func37, Try.ntmps37
  go_wp2
  go_loopw [7, 8] (fun s t wr => s = .int .i64 0 ∧ t = .int .i64 20 ∧ wr = w) (fun _ _ _ => 0)
  case atStart => exact ⟨rfl, rfl, rfl⟩
  case round =>
    obtain ⟨rfl, rfl, rfl⟩ := hrel
    go_wp2_with fail
    refine (insertion_nil _).mono ?_
    rintro r w1 ⟨rfl, hb⟩
    have BB := Lib.hid hb
    clear hb
    go_wp2
    go_loopw [6] (fun s wr => s = .int .i64 20 ∧ wr = w1) (fun _ _ => 0)
    case atStart => exact ⟨rfl, rfl⟩
    case round =>
      obtain ⟨rfl, rfl⟩ := hrel
      go_wp2
      go_end0
      exact ⟨rfl, BB.out⟩
theorem sortStable_nil (w : World) : Calls Try.prog 31 #[.slice none 0 0, fcmp] w fun e w' => e = .returned (.tuple #[]) ∧ Below w.heap.size w w' := by
  go_enter Try.func31, Try.ntmps31
  go_wp2_with fail
  refine (stable_nil _).mono ?_
  rintro r w1 ⟨rfl, hb⟩
  have BB := Lib.hid hb
  clear hb
  go_wp2
  go_end0
  exact ⟨rfl, BB.out⟩
end Go.Proofs.Ytclfbjbbdfejkaa.Ord
