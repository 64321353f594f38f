/- Collect, going; Victims. -/
import Derived.Test.YtclfbjbbdfejkaaOS
import Derived.Shelf.Abstract
namespace Go.Proofs.Ytclfbjbbdfejkaa.Ord
open Go.RowKit

def GotPost (w : World) (base : Nat) (out : List Int) (e : Ending) (w' : World) : Prop := ∃ v, e = .returned v ∧ Own w' .i64 2 base v out.length out ∧ Below base w w'
theorem seq_going (n bl bo base : Nat) (A : Option Addr) (nI c : Nat) (L : List Item) (over : Int) (w : World) (hl : w.heap[bl]? = some (.cells #[.slice A nI c] 22 (0, 0))) (ho : w.heap[bo]? = some (.cells #[.int .i64 over] 3 (0, 0))) (hI : Its w A nI c L) (hnI : nI ≤ 10000) (hov : -1000000000000000 ≤ over ∧ over ≤ 1000000000000000) (hbo : base ≤ bo) :
    SeqT n 34 #[.pointer (some ⟨bl, 0, none⟩), .pointer (some ⟨bo, 0, none⟩)] (goingL (srt L) over) base 10000 w := fun l J W hW hJ hY h0 =>
  going1_in n l bl bo base A nI c L over J 10000 hY W hJ (blk_below hl hW) (blk_below ho hW) (hI.below hW) hnI hnI hov hbo h0
theorem collect_any (bl bo base : Nat) (A : Option Addr) (nI c : Nat) (L : List Item) (over : Int) (w : World) (hl : w.heap[bl]? = some (.cells #[.slice A nI c] 22 (0, 0))) (ho : w.heap[bo]? = some (.cells #[.int .i64 over] 3 (0, 0))) (hI : Its w A nI c L) (hnI : nI ≤ 10000) (hov : -1000000000000000 ≤ over ∧ over ≤ 1000000000000000) (hbo : base ≤ bo) (hbase : base ≤ w.heap.size) :
    Calls Try.prog 23 #[.func (.func 34) #[] #[.pointer (some ⟨bl, 0, none⟩), .pointer (some ⟨bo, 0, none⟩)]] w (GotPost w base (goingL (srt L) over)) := by
  have HA := Lib.hid (callsIn_wide.1 (appendSeq_in 5 34 #[.pointer (some ⟨bl, 0, none⟩), .pointer (some ⟨bo, 0, none⟩)] (enters_of Try.func34 (by kernel_rfl) rfl) (goingL (srt L) over) base 10000 (by unfold maxLen; omega) (by omega) w hbase (seq_going _ bl bo base A nI c L over w hl ho hI hnI hov hbo)))
  clear hl ho hI hov
  go_enter Try.func23, Try.ntmps23
  go_wp2_with fail
  refine HA.out.mono ?_
  rintro r w1 ⟨v, rfl, hrow, hb⟩
  have HR := Lib.hid hrow
  have HB := Lib.hid hb
  clear hrow hb
  go_wp2
  go_ret
  exact ⟨v, rfl, row_lower HR.out hbase, HB.out⟩
def GoingPost (A : Option Addr) (nI c : Nat) (over : Int) (w : World) (e : Ending) (w' : World) : Prop := ∃ bl bo, e = .returned (.func (.func 34) #[] #[.pointer (some ⟨bl, 0, none⟩), .pointer (some ⟨bo, 0, none⟩)]) ∧ w'.heap[bl]? = some (.cells #[.slice A nI c] 22 (0, 0)) ∧ w'.heap[bo]? = some (.cells #[.int .i64 over] 3 (0, 0)) ∧ w.heap.size ≤ bo ∧ Below w.heap.size w w'
theorem going_any (A : Option Addr) (nI c : Nat) (over : Int) (w : World) : Calls Try.prog 24 #[.slice A nI c, .int .i64 over] w (GoingPost A nI c over w) := by
  go_enter Try.func24, Try.ntmps24
  go_wp2
  go_ret
  exact ⟨_, _, rfl, heap_alloc2_old _ _ _, heap_alloc2_new _ _ _, by omega, ((Below.refl _ _).alloc (Nat.le_refl _) _).alloc (by simp) _⟩
/-- Can that be? -/
def vicOk (L : List Item) (inn most : Int) : Bool := wth inn 0 1099511627776 && (wth most 0 1099511627776 && decide (inn + costP L ≤ most))
/-- Those that are to go. -/
def vicL (L : List Item) (inn most : Int) : List Int := if vicOk L inn most = true then goingL (srt L) (inn + costA L - most) else []
def VicPost (L : List Item) (inn most : Int) (w : World) (e : Ending) (w' : World) : Prop := ∃ v, e = .returned (.tuple #[v, .bool (vicOk L inn most)]) ∧ Own w' .i64 2 w.heap.size v (vicL L inn most).length (vicL L inn most) ∧ Below w.heap.size w w'
theorem own0 (w : World) (base : Nat) : Own w .i64 2 base (.slice none 0 0) 0 [] := World.ownsRow_nil _ _ _ _
set_option maxRecDepth 100000 in
set_option maxHeartbeats 4000000 in
theorem victims_any (A : Option Addr) (n c : Nat) (L : List Item) (inn most : Int) (w : World) (hE : Its w A n c L) (hn : n ≤ 10000) :
    Calls Try.prog 9 #[.slice A n c, .int .i64 inn, .int .i64 most] w (VicPost L inn most w) := by
  have HE := Lib.hid hE
  have HC := Lib.hid (cost_any A n c L w hE (by omega))
  have hle := hE.le
  have hsm := hE.small
  have hbd := cost_bd L
  rw [hE.len] at hbd
  clear hE
  obtain ⟨ca, hca⟩ : ∃ x, x = costA L := ⟨_, rfl⟩
  obtain ⟨cp, hcp⟩ : ∃ x, x = costP L := ⟨_, rfl⟩
  obtain ⟨p1, hp1⟩ : ∃ p, p = wth inn 0 1099511627776 := ⟨_, rfl⟩
  obtain ⟨p2, hp2⟩ : ∃ p, p = wth most 0 1099511627776 := ⟨_, rfl⟩
  have HOK : Hid (vicOk L inn most = (p1 && (p2 && decide (inn + cp ≤ most)))) := Lib.hid (by rw [hp1, hp2, hcp]; rfl)
  have HVL : Hid (vicL L inn most = if vicOk L inn most = true then goingL (srt L) (inn + ca - most) else []) := Lib.hid (by rw [hca]; rfl)
  have C1 := Lib.hid (fun w => hp1 ▸ within_any inn 0 1099511627776 w)
  have C2 := Lib.hid (fun w => hp2 ▸ within_any most 0 1099511627776 w)
  have R1 : p1 = true → 0 ≤ inn ∧ inn ≤ 1099511627776 := fun h => by rw [hp1] at h; simpa [wth] using h
  have R2 : p2 = true → 0 ≤ most ∧ most ≤ 1099511627776 := fun h => by rw [hp2] at h; simpa [wth] using h
  have hb1 : 0 ≤ cp ∧ cp ≤ ca ∧ ca ≤ 10485760000 := by rw [hca, hcp]; omega
  unfold CostPost at HC
  rw [← hca, ← hcp] at HC
  clear hca hcp hp1 hp2 hbd
  have nok : vicOk L inn most = false → VicPost L inn most w (.returned (.tuple #[.slice none 0 0, .bool false])) w := fun h => ⟨_, by rw [h], by rw [HVL.out, h]; exact own0 _ _, Below.refl _ _⟩
  have NK := Lib.hid (fun (h : vicOk L inn most = false) (w' : World) (hb : Below w.heap.size w w') => (show VicPost L inn most w (.returned (.tuple #[.slice none 0 0, .bool false])) w' from ⟨_, by rw [h], by rw [HVL.out, h]; exact own0 _ _, hb⟩))
  clear nok
  go_enter Try.func9, Try.ntmps9
  go_wp2_with fail
  refine HC.out.mono ?_
  rintro r w1 ⟨rfl, hb1'⟩
  have B1 := Lib.hid hb1'
  clear hb1'
  go_wp2_with fail
  refine (C1.out w1).mono ?_
  rintro r w2 ⟨rfl, rfl⟩
  cases p1 with
  | false =>
    clear R1 R2
    go_wp2
    go_ret2
    exact NK.out (by rw [HOK.out]; rfl) _ B1.out
  | true =>
    have r1 := R1 rfl
    clear R1
    go_wp2_with fail
    refine (C2.out w1).mono ?_
    rintro r w2 ⟨rfl, rfl⟩
    cases p2 with
    | false =>
      clear R2
      go_wp2
      go_ret2
      exact NK.out (by rw [HOK.out]; rfl) _ B1.out
    | true =>
      have r2 := R2 rfl
      clear R2
      by_cases hm : most < inn + cp
      · have hd : decide (most < inn + cp) = true := decide_eq_true hm
        have HF : Hid (vicOk L inn most = false) := Lib.hid (by rw [HOK.out]; simp; omega)
        go_wp2
        go_ret2
        exact NK.out HF.out _ B1.out
      · have hd : decide (most < inn + cp) = false := decide_eq_false hm
        have HT : Hid (vicOk L inn most = true) := Lib.hid (by rw [HOK.out]; simp; omega)
        have HVT : Hid (vicL L inn most = goingL (srt L) (inn + ca - most)) := Lib.hid (by rw [HVL.out, if_pos HT.out])
        obtain ⟨ov, hov⟩ : ∃ x, x = inn + ca - most := ⟨_, rfl⟩
        rw [← hov] at HVT
        have HOV := Lib.hid hov
        have hov1 : -1000000000000000 ≤ ov ∧ ov ≤ 1000000000000000 := by omega
        have HO1 := Lib.hid hov1
        have HG := Lib.hid (going_any A n c ov w1)
        clear hov hov1
        go_upto_region 4 with fail
        go_wp2_with fail
        rw [← HOV.out]
        refine HG.out.mono ?_
        rintro r w3 ⟨bl, bo, rfl, hl, ho, hbo, hb3⟩
        have HC2 := Lib.hid (collect_any bl bo w1.heap.size A n c L ov w3 hl ho ((HE.out.below B1.out).below hb3) hn HO1.out hbo hb3.size)
        have B3 := Lib.hid hb3
        clear hl ho hbo hb3
        go_wp2_with fail
        refine HC2.out.mono ?_
        rintro r w4 ⟨v, rfl, hown, hb4⟩
        have O4 := Lib.hid hown
        have B4 := Lib.hid (below_trans B1.out ((B3.out).trans hb4) B1.out.size)
        clear hown hb4
        go_wp2
        go_ret2
        exact ⟨v, by rw [HT.out]; rfl, by rw [HVT.out]; exact O4.out.lower B1.out.size, B4.out⟩
end Go.Proofs.Ytclfbjbbdfejkaa.Ord
