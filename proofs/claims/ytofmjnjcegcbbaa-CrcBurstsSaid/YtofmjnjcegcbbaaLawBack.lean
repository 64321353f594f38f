/- The walk of CrcBack. -/
import Derived.Test.YtofmjnjcegcbbaaLaws
namespace Go.Proofs.Ytofmjnjcegcbbaa.Crc
open Go.RowKit CrcMath

theorem opens_shut (l : List Int) : opens (shut l) = true := by
  unfold opens
  rw [shut_length]
  have e : (shut l).take (l.length + 4 - 4) = l := by
    rw [Nat.add_sub_cancel]; unfold shut; exact List.take_left' rfl
  rw [e]
  exact decide_eq_true ⟨by omega, rfl⟩
theorem inner_shut (l : List Int) : inner (shut l) = l := by
  unfold inner
  rw [opens_shut, if_pos rfl, shut_length, Nat.add_sub_cancel]
  unfold shut
  exact List.take_left' rfl
theorem shut_inner {l : List Int} (h : opens l = true) : shut (inner l) = l := by
  unfold inner
  rw [if_pos h]
  unfold opens at h
  exact (of_decide_eq_true h).2
theorem inner_bytes {l : List Int} (h : Bytes l) : Bytes (inner l) := by
  unfold inner
  split
  · exact take_bytes h _
  · exact fun _ h => by cases h
theorem inner_le (l : List Int) : (inner l).length ≤ l.length := by
  unfold inner
  split
  · rw [List.length_take]; omega
  · simp
theorem Own.store {w : World} {k : IntKind} {e : TypeId} {base g n c : Nat} {l : List Int} (h : Own w k e base (.slice (some ⟨g, 0, none⟩) n c) n l) (j : Nat) (y : Int) :
    Own (w.setCell ⟨g, j, none⟩ (.int k y)) k e base (.slice (some ⟨g, 0, none⟩) n c) n (l.set j y) := by
  have := (World.ownsRow.stored h j (.int k y)).1
  unfold Own
  rw [List.map_set]
  exact this
theorem Own.slot {w : World} {k : IntKind} {e : TypeId} {base n c : Nat} {A : Option Addr} {l : List Int} (h : Own w k e base (.slice A n c) n l) (h0 : 0 < n) : ∃ g, A = some ⟨g, 0, none⟩ ∧ base ≤ g := by
  rcases h.2 with ⟨he, hn⟩ | ⟨g, cap, cur, he, hb, _⟩
  · omega
  · cases he
    exact ⟨g, rfl, hb⟩
theorem Own.cell {w : World} {k : IntKind} {e : TypeId} {base g n c : Nat} {l : List Int} (h : Own w k e base (.slice (some ⟨g, 0, none⟩) n c) n l) (j : Nat) (hj : j < n) : w.cell? ⟨g, j, none⟩ = some (.int k (l.getD j 0)) := by
  rw [World.ownsRow.cellAt h j (by omega), List.getElem?_map, List.getElem?_eq_getElem (by rw [h.len]; exact hj), List.getD_eq_getElem?_getD, List.getElem?_eq_getElem (by rw [h.len]; exact hj)]
  rfl

set_option maxHeartbeats 4000000 in
set_option maxRecDepth 100000 in
theorem CrcBack_walk (A : Option Addr) (n c : Nat) (zs : List Int) (w : World) (hz : IsRow .u8 w A n c zs) (_ : n * 1 ≤ 140737488351232) :
    Calls Try.prog 7 #[.slice A n c] w fun e w' => e = .returned (.bool true) ∧ Below w.heap.size w w' := by
  have hr := hz.rd
  have hb := hz.bytes
  obtain ⟨l, hl⟩ : ∃ l, l = zs.take n := ⟨_, rfl⟩
  rw [← hl] at hr hb
  have hn := Nat.le_trans hr.le hr.small
  have R := Lib.hid hr
  have Y := Lib.hid hb
  have HL := Lib.hid hr.len
  clear hz hl hr hb
  by_cases h9 : (9000 : Int) < n
  · have hd : decide ((9000 : Int) < n) = true := decide_eq_true h9
    have hd2 : decide (9000 < n) = true := decide_eq_true (by omega)
    go_enter Try.func7, Try.ntmps7
    go_wp2_with fail
    refine (head_any _).mono ?_
    rintro e w1 ⟨rfl, hb1⟩
    go_wp2
    go_ret
    exact ⟨rfl, hb1⟩
  · have hd : decide ((9000 : Int) < n) = false := decide_eq_false h9
    have hd2 : decide (9000 < n) = false := decide_eq_false (by omega)
    go_enter Try.func7, Try.ntmps7
    go_wp2_with fail
    refine (head_any _).mono ?_
    rintro e w1 ⟨rfl, hb1⟩
    have B1 := Lib.hid hb1
    clear hb1
    have t1 := (R.out.below B1.out).text (P := Try.prog) Try.underlying23 Try.underlying5 Try.underlying9
    go_wp2_with fail
    refine (seal_any A n c l _ (R.out.below B1.out) Y.out (by omega)).mono ?_
    rintro e w2 ⟨⟨v2, rfl, ho2⟩, hb2⟩
    obtain ⟨A2, c2, rfl, hr2, _⟩ := ho2.rd
    have B2 := Lib.hid (below_trans B1.out hb2 B1.out.size)
    have R2 := Lib.hid hr2
    clear hb2 hr2 ho2 t1
    go_wp2_with fail
    refine (open_any A2 (n + 4) c2 (shut l) _ R2.out (shut_bytes Y.out) (by omega)).mono ?_
    rintro e w3 ⟨⟨v3, m3, rfl, ho3⟩, hb3⟩
    rw [opens_shut]
    rw [inner_shut] at ho3
    obtain ⟨A3, c3, rfl, hr3, _⟩ := ho3.rd
    obtain rfl : m3 = n := ho3.len.symm.trans HL.out
    have O3 := Lib.hid ho3
    have X3 := Lib.hid hb3
    have t3 := hr3.text (P := Try.prog) Try.underlying23 Try.underlying5 Try.underlying9
    clear hb3 hr3 ho3
    go_wp2_with fail
    clear t3
    go_loopw [8] (fun i wr => ∃ k : Nat, k ≤ m3 ∧ i = .int .i64 k ∧ ∃ lk, Own wr .u8 5 w2.heap.size (.slice A3 m3 c3) m3 lk ∧ Below w2.heap.size w2 wr) (fun i _ => m3 - (intOf i).toNat)
    case atStart => exact ⟨0, Nat.zero_le _, rfl, l, O3.out, X3.out⟩
    case round =>
      obtain ⟨k, hk, rfl, lk, ho, hbel⟩ := hrel
      have O := Lib.hid ho
      have X := Lib.hid hbel
      clear ho hbel
      by_cases hlt : k < m3
      · obtain ⟨g, rfl, hg⟩ := Own.slot O.out (by omega)
        have hc := Own.cell O.out k hlt
        have hf := World.ownsRow.frozenAt O.out k
        obtain ⟨y, hy⟩ : ∃ y, y = lk.getD k 0 := ⟨_, rfl⟩
        rw [← hy] at hc
        clear hy
        go_wp2
        go_roundw
        case rel => exact ⟨k + 1, by omega, by go_num, _, Own.store O.out k _, X.out.setCell hg _⟩
        case measure => simp [intOf]; omega
      · have R3 := Lib.hid (R2.out.below X.out)
        have X4 := Lib.hid (below_trans B2.out X.out B2.out.size)
        go_wp2_with fail
        refine (open_known A2 (m3 + 4) c2 (shut l) true l _ R3.out (shut_bytes Y.out) (by omega) (opens_shut l) (inner_shut l)).mono ?_
        rintro e w5 ⟨⟨A5, c5, rfl, hr5⟩, hb5⟩
        rw [HL.out] at hr5 ⊢
        have X5 := Lib.hid (below_trans X4.out hb5 X4.out.size)
        have R5 := Lib.hid hr5
        clear hb5 hr5
        obtain ⟨b6, hb6⟩ : ∃ b, b = opens l := ⟨_, rfl⟩
        obtain ⟨l6, hl6⟩ : ∃ l6, l6 = inner l := ⟨_, rfl⟩
        have hsh : b6 = true → shut l6 = l := fun h => by rw [hl6]; exact shut_inner (by rw [← hb6, h])
        have hno : b6 = false → l6 = [] := fun h => by rw [hl6]; unfold inner; rw [← hb6, h]; rfl
        have hy6 : Bytes l6 := by rw [hl6]; exact inner_bytes Y.out
        have hn6 : l6.length ≤ 1000000 := by have := inner_le l; rw [hl6]; have h7 := HL.out; omega
        have SH := Lib.hid hsh
        have NO := Lib.hid hno
        have Y6 := Lib.hid hy6
        have N6 := Lib.hid hn6
        have E6 := Lib.hid hb6
        have F6 := Lib.hid hl6
        clear hsh hno hy6 hn6 hb6 hl6
        go_wp2_with fail
        refine (open_known A m3 c l b6 l6 _ (R.out.below X5.out) Y.out (by omega) E6.out.symm F6.out.symm).mono ?_
        rintro e w6 ⟨⟨A6, c6, rfl, hr6⟩, hb6⟩
        have X6 := Lib.hid (below_trans X5.out hb6 X5.out.size)
        have R56 := Lib.hid (R5.out.below hb6)
        have R6 := Lib.hid hr6
        clear hb6 hr6
        have u1 := (R.out.below X6.out).text (P := Try.prog) Try.underlying23 Try.underlying5 Try.underlying9
        have u2 := R56.out.text (P := Try.prog) Try.underlying23 Try.underlying5 Try.underlying9
        cases b6 with
        | false =>
          have e0 : l6 = [] := NO.out rfl
          subst e0
          go_wp2
          go_ret
          exact ⟨rfl, X6.out⟩
        | true =>
          have E7 := Lib.hid (SH.out rfl)
          go_wp2_with fail
          refine (seal_any A6 l6.length c6 l6 _ R6.out Y6.out N6.out).mono ?_
          rintro e w7 ⟨⟨v7, rfl, ho7⟩, hb7⟩
          obtain ⟨A7, c7, rfl, hr7, _⟩ := ho7.rd
          have X7 := Lib.hid (below_trans X6.out hb7 X6.out.size)
          rw [E7.out] at hr7
          have u3 := hr7.text (P := Try.prog) Try.underlying23 Try.underlying5 Try.underlying9
          clear hb7 hr7 ho7
          go_wp2
          go_ret
          exact ⟨rfl, X7.out⟩
end Go.Proofs.Ytofmjnjcegcbbaa.Crc
