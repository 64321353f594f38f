/- Sort: what goes, in order. -/
import Derived.Test.YtclfbjbbdfejkaaOK
namespace Go.Proofs.Ytclfbjbbdfejkaa.Ord
open Go.RowKit

/-- What Sort hands back: a row of its own that holds what goes, in order. -/
def SortPost (w : World) (L : List Item) (e : Ending) (w' : World) : Prop := ∃ v m, e = .returned v ∧ OwnI w' w.heap.size v m (srt L) ∧ Below w.heap.size w w'
theorem own_nil (w : World) (base : Nat) : OwnI w base (.slice none 0 0) 0 [] := World.ownsRow_nil _ _ _ _
theorem goes_le (L : List Item) : (L.filter goes).length ≤ L.length := List.length_filter_le _ _
set_option maxHeartbeats 4000000 in
theorem sort_any (A : Option Addr) (n c : Nat) (L : List Item) (w : World) (hE : Its w A n c L) (hn : n ≤ 10000) :
    Calls Try.prog 18 #[.slice A n c] w (SortPost w L) := by
  have HC := Lib.hid (clone_any A n c L w hE (by omega))
  have HL := Lib.hid hE.len
  have hle := hE.le
  have hsm := hE.small
  clear hE
  go_enter Try.func18, Try.ntmps18
  go_wp2_with fail
  refine HC.out.mono ?_
  rintro r w1 ⟨v, rfl, hown, hb1⟩
  have B1 := Lib.hid hb1
  clear hb1
  obtain ⟨A1, c1, rfl, -, hsp⟩ := hown.its
  cases A1 with
  | none =>
    obtain ⟨rfl, rfl, hL0⟩ : n = 0 ∧ c1 = 0 ∧ L = [] := by
      rcases hown.2 with ⟨e, e2⟩ | ⟨g, cap, cur, e, _⟩
      · cases e
        have h1 := HL.out
        exact ⟨rfl, rfl, List.eq_nil_of_length_eq_zero h1⟩
      · cases e
    have HL0 := Lib.hid hL0
    clear hown hsp hL0
    go_wp2_with fail
    refine (delete_nil w1).mono ?_
    rintro r w2 ⟨rfl, hb2⟩
    have B2 := Lib.hid (below_trans B1.out hb2 B1.out.size)
    clear hb2
    go_wp2_with fail
    refine (sortStable_nil w2).mono ?_
    rintro r w3 ⟨rfl, hb3⟩
    have B3 := Lib.hid (below_trans B2.out hb3 B2.out.size)
    clear hb3
    go_wp2
    go_ret
    exact ⟨_, 0, rfl, by rw [HL0.out]; exact own_nil _ _, B3.out⟩
  | some ad =>
    obtain ⟨g, rfl, hbg⟩ := hsp ad rfl
    have OW1 := Lib.hid hown
    have HBG := Lib.hid hbg
    clear hown hsp hbg
    go_wp2_with fail
    refine (delete_any w.heap.size g n c1 L w1 OW1.out).mono ?_
    rintro r w2 ⟨m, rfl, hown2, hgr2⟩
    have OW2 := Lib.hid hown2
    have hm : m ≤ n := by have := goes_le L; rw [hown2.len, HL.out] at this; exact this
    have HM := Lib.hid hown2.len
    have B2 := Lib.hid (below_grown B1.out hgr2 B1.out.size (fun k hk => by cases hk; exact HBG.out))
    clear hown2 hgr2
    go_wp2_with fail
    refine (sortStable_any w.heap.size g m c1 (L.filter goes) w2 OW2.out (by omega)).mono ?_
    rintro r w3 ⟨R, ⟨rfl, hown3, hgr3⟩, htr, hsr⟩
    have e := srt_eq htr hsr hown3.len
    subst e
    have OW3 := Lib.hid hown3
    have B3 := Lib.hid (below_grown B2.out hgr3 B2.out.size (fun k hk => by cases hk; exact HBG.out))
    clear hown3 hgr3 htr hsr
    go_wp2
    go_ret
    exact ⟨_, m, rfl, OW3.out, B3.out⟩
end Go.Proofs.Ytclfbjbbdfejkaa.Ord
