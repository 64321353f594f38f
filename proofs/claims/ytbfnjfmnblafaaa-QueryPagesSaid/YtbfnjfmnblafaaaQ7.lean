/- SameIds; the document's Fits. -/
import Derived.Test.YtbfnjfmnblafaaaQm
import Derived.Deep.QuietTactic
import Derived.BigQuiet
import Derived.Deep.Cut
namespace Go.Proofs.Ytbfnjfmnblafaaa.Qry
open Go.RowKit

/-- Are two rows alike? -/
def same (l m : List Int) : Bool := decide (l = m)
def SayB (w : World) (b : Bool) (e : Ending) (w' : World) : Prop := e = .returned (.bool b) ∧ Below w.heap.size w w'
theorem take_step {l m : List Int} {k : Nat} (h : l.take k = m.take k) (h1 : k < l.length) (h2 : k < m.length) (he : l.getD k 0 = m.getD k 0) : l.take (k + 1) = m.take (k + 1) := by
  rw [List.take_succ_eq_append_getElem h1, List.take_succ_eq_append_getElem h2, h]
  have e1 : l.getD k 0 = l[k] := by rw [List.getD_eq_getElem?_getD, List.getElem?_eq_getElem h1]; rfl
  have e2 : m.getD k 0 = m[k] := by rw [List.getD_eq_getElem?_getD, List.getElem?_eq_getElem h2]; rfl
  rw [e1, e2] at he
  rw [he]
set_option maxHeartbeats 1000000 in
theorem sameIds_any (A1 A2 : Option Addr) (n1 c1 n2 c2 : Nat) (l1 l2 : List Int) (w : World) (h1 : Rd w .i64 A1 n1 c1 l1) (h2 : Rd w .i64 A2 n2 c2 l2) :
    Calls Try.prog 15 #[.slice A1 n1 c1, .slice A2 n2 c2] w (SayB w (same l1 l2)) := by
  have b1 := h1.le
  have b2 := h1.small
  have H1 := Lib.hid h1
  have H2 := Lib.hid h2
  clear h1 h2
  by_cases hn : n1 = n2
  · subst hn
    have hd : ((n1 : Int) != n1) = false := by simp
    go_enter Try.func15, Try.ntmps15
    go_wp2
    go_loopw [5] (fun i wr => ∃ k : Nat, k ≤ n1 ∧ i = .int .i64 k ∧ l1.take k = l2.take k ∧ Below w.heap.size w wr) (fun i _ => n1 - (intOf i).toNat)
    case atStart => exact ⟨0, Nat.zero_le _, rfl, rfl, Below.refl _ _⟩
    case round =>
      obtain ⟨k, hk, rfl, heq, hb⟩ := hrel
      have R1 := H1.out.below hb
      have R2 := H2.out.below hb
      have E := Lib.hid heq
      have B := Lib.hid hb
      clear heq hb
      by_cases hlt : k < n1
      · obtain ⟨a1, rfl, hc1⟩ := R1.cell k hlt
        obtain ⟨a2, rfl, hc2⟩ := R2.cell k hlt
        have L1 := Lib.hid R1.len
        have L2 := Lib.hid R2.len
        clear R1 R2
        have hkn : (k : Int) < n1 := by omega
        obtain ⟨x, hx⟩ : ∃ x, x = l1.getD k 0 := ⟨_, rfl⟩
        obtain ⟨y, hy⟩ : ∃ y, y = l2.getD k 0 := ⟨_, rfl⟩
        rw [← hx] at hc1
        rw [← hy] at hc2
        have HX := Lib.hid hx
        have HY := Lib.hid hy
        clear hx hy
        by_cases hxy : x = y
        · subst hxy
          have hd2 : (x != x) = false := by simp
          go_wp2
          go_quiet (fail)
          go_wp2
          go_roundw
          case rel => exact ⟨k + 1, by omega, by go_num, take_step E.out (by rw [L1.out]; exact hlt) (by rw [L2.out]; exact hlt) (by rw [← HX.out, ← HY.out]), below_drewN2 B.out _⟩
          case measure => simp [intOf]; omega
        · have hd2 : (x != y) = true := by simpa using hxy
          have HF : Hid (same l1 l2 = false) := Lib.hid (decide_eq_false (fun e => hxy (by rw [HX.out, HY.out, e])))
          go_wp2
          go_quiet (fail)
          go_wp2
          go_ret
          exact ⟨by rw [HF.out]; rfl, below_drewN2 B.out _⟩
      · have hkk : k = n1 := by omega
        have hkn : ¬ (k : Int) < n1 := by omega
        have HF : Hid (same l1 l2 = true) := Lib.hid (decide_eq_true (by have h := E.out; rwa [List.take_of_length_le (by rw [R1.len]; omega), List.take_of_length_le (by rw [R2.len]; omega)] at h))
        clear hkk R1 R2
        go_wp2
        go_ret
        exact ⟨by rw [HF.out]; rfl, B.out⟩
  · have hd : ((n1 : Int) != n2) = true := by simpa using (show ¬ (n1 : Int) = n2 by omega)
    have HF : Hid (same l1 l2 = false) := Lib.hid (decide_eq_false (fun e => hn (by rw [← H1.out.len, ← H2.out.len, e])))
    clear hn
    go_enter Try.func15, Try.ntmps15
    go_wp2
    go_ret
    exact ⟨by rw [HF.out]; rfl, Below.refl _ _⟩

/-- As the document asks. -/
def asks (of p1 p2 p3 p4 p5 p6 p7 : Bool) : Bool := of && (!p1 && (!p2 && ((!p3 || !p4) && (p5 || (p6 && p7)))))
theorem fits_asks (e : Ent) (a : Ask) : fits e a = asks ((a.serv.toList == []) || has a.serv e.ss) (decide (a.to_ < e.bfrom)) (decide (e.bto < a.from_)) (decide (0 ≤ a.cls)) (e.it.cls != a.cls) (decide (a.tick < e.it.tick)) (e.it.tick == a.tick) (decide (a.id < e.it.id)) := by
  unfold fits asks
  rw [fits4_eq]
  have e2 : fits2 e a = (!decide (a.to_ < e.bfrom) && !decide (e.bto < a.from_)) := by
    unfold fits2
    rw [Bool.eq_iff_iff]
    simp
  have e3 : fits3 e a = (!decide (0 ≤ a.cls) || !(e.it.cls != a.cls)) := by
    unfold fits3
    rw [Bool.eq_iff_iff]
    simp
  have e4 : beh a.tick a.id e = (decide (a.tick < e.it.tick) || ((e.it.tick == a.tick) && decide (a.id < e.it.id))) := by
    unfold beh
    rw [Bool.eq_iff_iff]
    simp
  rw [e2, e3, e4]
  unfold fits1
  simp only [Bool.and_assoc]
set_option maxRecDepth 100000 in
set_option maxHeartbeats 4000000 in
theorem reffits_any (e : Ent) (a : Ask) (w : World) (h : SRd w e.sA e.sn e.sc e.ss) :
    Calls Try.prog 14 #[.agg e.cells.toArray, .agg a.cells.toArray] w (SayB w (fits e a)) := by
  obtain ⟨E, hE⟩ : ∃ E, E = e.cells.toArray := ⟨_, rfl⟩
  obtain ⟨A, hA⟩ : ∃ A, A = a.cells.toArray := ⟨_, rfl⟩
  rw [← hE, ← hA]
  have HE := Lib.hid hE
  have HA := Lib.hid hA
  have H := Lib.hid h
  have hle := h.le
  have hsm := h.small
  have HF := Lib.hid (fits_asks e a)
  clear hE hA h
  go_enter Try.func14, Try.ntmps14
  go_upto_region 1 with (fail)
  obtain ⟨W1, hW1⟩ : ∃ W, W = (w.alloc (.cells E 29)).alloc (.cells A 31) := ⟨_, rfl⟩
  rw [← hW1]
  have hs1 : W1.heap.size = w.heap.size + 1 + 1 := by rw [hW1]; simp
  have hB1 : Below w.heap.size w W1 := by rw [hW1]; exact ((Below.refl _ _).alloc (Nat.le_refl _) _).alloc (by simp) _
  have hat1 : At W1 w.heap.size 0 e.cells := by
    have h0 : At (w.alloc (.cells E 29)) w.heap.size 0 e.cells := by rw [HE.out]; exact at_alloc 29
    rw [hW1]
    exact h0.below ((Below.refl _ _).alloc (Nat.le_refl _) _)
  have hat2 : At W1 (w.heap.size + 1) 0 a.cells := by
    have h0 := at_alloc (w := w.alloc (.cells E 29)) (cs := a.cells) 31
    rw [World.size_alloc, ← HA.out, ← hW1] at h0
    exact h0
  have seen1 : Seen W1 w.heap.size (w.heap.size + 1) e a := ⟨hat1, hat2, H.out.below hB1⟩
  obtain ⟨be, hbe⟩ : ∃ b, b = w.heap.size := ⟨_, rfl⟩
  obtain ⟨ba, hba⟩ : ∃ b, b = w.heap.size + 1 := ⟨_, rfl⟩
  rw [← hba, ← hbe] at seen1
  rw [← hba, ← hbe]
  have SE := Lib.hid seen1
  have B1 := Lib.hid hB1
  have ca0 : W1.cell? ⟨ba, 0, none⟩ = some (.string a.serv) := seen1.ask 0 (by simp [Ask.cells])
  clear hat1 hat2 seen1 hB1 hW1 hs1 hbe hba
  obtain ⟨t0, ht0⟩ : ∃ t, t = (a.serv.toList == []) := ⟨_, rfl⟩
  have ht0' := ht0.symm
  rw [← ht0] at HF
  clear ht0
  go_wp2
  go_loopw [5, 6] (fun of i wr => ∃ k : Nat, k ≤ e.sn ∧ i = .int .i64 k ∧ of = .bool (t0 || has a.serv (e.ss.take k)) ∧ Below W1.heap.size W1 wr) (fun _ i _ => e.sn - (intOf i).toNat)
  case atStart => exact ⟨0, Nat.zero_le _, rfl, by cases t0 <;> rfl, Below.refl _ _⟩
  case round =>
    obtain ⟨k, hk, rfl, rfl, hb⟩ := hrel
    have SR := SE.out.below hb
    have B := Lib.hid (below_trans B1.out hb B1.out.size)
    have BB := Lib.hid hb
    have cs : wr.cell? ⟨be, 9, none⟩ = some (.slice e.sA e.sn e.sc) := SR.ent 9 (by simp [Ent.cells, Item.cells])
    have cq : wr.cell? ⟨ba, 0, none⟩ = some (.string a.serv) := SR.ask 0 (by simp [Ask.cells])
    clear hb
    by_cases hlt : k < e.sn
    · have hkn : (k : Int) < e.sn := by omega
      have hll : k < e.ss.length := by rw [SR.row.len]; exact hlt
      obtain ⟨ad, hAd, hc⟩ := SR.row.cell k hll
      have hst := has_take (v := a.serv) hll
      obtain ⟨x, hx⟩ : ∃ x, x = e.ss[k] := ⟨_, rfl⟩
      rw [← hx] at hc hst
      obtain ⟨q, hq⟩ : ∃ q, q = (x.toList == a.serv.toList) := ⟨_, rfl⟩
      have hq' := hq.symm
      have HS : Hid (has a.serv (e.ss.take (k + 1)) = (has a.serv (e.ss.take k) || q)) := Lib.hid (by rw [hst, hq]; congr 1; exact Bool.beq_comm)
      rw [hAd] at cs
      clear hst hq hx SR hAd
      obtain ⟨s, hs⟩ : ∃ s, s = (t0 || has a.serv (e.ss.take k)) := ⟨_, rfl⟩
      have HSS := Lib.hid hs
      rw [← hs]
      clear hs
      cases s with
      | true =>
        clear hc hq'
        go_wp2
        go_quiet (fail)
        go_wp2
        go_roundw
        case rel => exact ⟨k + 1, by omega, by go_num, by rw [HS.out, ← Bool.or_assoc, ← HSS.out]; rfl, below_drewN2 BB.out _⟩
        case measure => simp [intOf]; omega
      | false =>
        go_wp2
        go_quiet (fail)
        go_wp2
        go_roundw
        case rel => exact ⟨k + 1, by omega, by go_num, by rw [HS.out, ← Bool.or_assoc, ← HSS.out]; rfl, below_drewN2 BB.out _⟩
        case measure => simp [intOf]; omega
    · have hkn : ¬ (k : Int) < e.sn := by omega
      have htk : e.ss.take k = e.ss := List.take_of_length_le (by rw [SR.row.len]; omega)
      rw [htk]
      have c1 : wr.cell? ⟨be, 6, none⟩ = some (.int .i64 e.bfrom) := SR.ent 6 (by simp [Ent.cells, Item.cells])
      have c2 : wr.cell? ⟨be, 7, none⟩ = some (.int .i64 e.bto) := SR.ent 7 (by simp [Ent.cells, Item.cells])
      have c3 : wr.cell? ⟨be, 1, none⟩ = some (.int .i64 e.it.cls) := SR.ent 1 (by simp [Ent.cells, Item.cells])
      have c4 : wr.cell? ⟨be, 2, none⟩ = some (.int .i64 e.it.tick) := SR.ent 2 (by simp [Ent.cells, Item.cells])
      have c5 : wr.cell? ⟨be, 0, none⟩ = some (.int .i64 e.it.id) := SR.ent 0 (by simp [Ent.cells, Item.cells])
      have d1 : wr.cell? ⟨ba, 1, none⟩ = some (.int .i64 a.from_) := SR.ask 1 (by simp [Ask.cells])
      have d2 : wr.cell? ⟨ba, 2, none⟩ = some (.int .i64 a.to_) := SR.ask 2 (by simp [Ask.cells])
      have d3 : wr.cell? ⟨ba, 3, none⟩ = some (.int .i64 a.cls) := SR.ask 3 (by simp [Ask.cells])
      have d4 : wr.cell? ⟨ba, 4, none⟩ = some (.int .i64 a.tick) := SR.ask 4 (by simp [Ask.cells])
      have d5 : wr.cell? ⟨ba, 5, none⟩ = some (.int .i64 a.id) := SR.ask 5 (by simp [Ask.cells])
      clear SR htk cq
      generalize (t0 || has a.serv e.ss) = p0 at HF ⊢
      obtain ⟨p1, h1⟩ : ∃ p, p = decide (a.to_ < e.bfrom) := ⟨_, rfl⟩
      obtain ⟨p2, h2⟩ : ∃ p, p = decide (e.bto < a.from_) := ⟨_, rfl⟩
      obtain ⟨p3, h3⟩ : ∃ p, p = decide (0 ≤ a.cls) := ⟨_, rfl⟩
      obtain ⟨p4, h4⟩ : ∃ p, p = (e.it.cls != a.cls) := ⟨_, rfl⟩
      obtain ⟨p5, h5⟩ : ∃ p, p = decide (a.tick < e.it.tick) := ⟨_, rfl⟩
      obtain ⟨p6, h6⟩ : ∃ p, p = (e.it.tick == a.tick) := ⟨_, rfl⟩
      obtain ⟨p7, h7⟩ : ∃ p, p = decide (a.id < e.it.id) := ⟨_, rfl⟩
      rw [← h1, ← h2, ← h3, ← h4, ← h5, ← h6, ← h7] at HF
      replace h1 := h1.symm
      replace h2 := h2.symm
      replace h3 := h3.symm
      replace h4 := h4.symm
      replace h5 := h5.symm
      replace h6 := h6.symm
      replace h7 := h7.symm
      cases p0 with
      | false =>
        go_wp2
        go_ret
        exact ⟨by rw [HF.out]; rfl, B.out⟩
      | true =>
        cases p1 with
        | true =>
          go_wp2
          go_ret
          exact ⟨by rw [HF.out]; rfl, B.out⟩
        | false =>
          cases p2 with
          | true =>
            go_wp2
            go_ret
            exact ⟨by rw [HF.out]; rfl, B.out⟩
          | false =>
            cases p3 with
            | true =>
              cases p4 with
              | true =>
                go_wp2
                go_ret
                exact ⟨by rw [HF.out]; rfl, B.out⟩
              | false =>
                cases p5 with
                | true =>
                  go_wp2
                  go_ret
                  exact ⟨by rw [HF.out]; rfl, B.out⟩
                | false =>
                  cases p6 with
                  | false =>
                    go_wp2
                    go_ret
                    exact ⟨by rw [HF.out]; rfl, B.out⟩
                  | true =>
                    cases p7 with
                    | false =>
                      go_wp2
                      go_ret
                      exact ⟨by rw [HF.out]; rfl, B.out⟩
                    | true =>
                      go_wp2
                      go_ret
                      exact ⟨by rw [HF.out]; rfl, B.out⟩
            | false =>
              cases p5 with
              | true =>
                go_wp2
                go_ret
                exact ⟨by rw [HF.out]; rfl, B.out⟩
              | false =>
                cases p6 with
                | false =>
                  go_wp2
                  go_ret
                  exact ⟨by rw [HF.out]; rfl, B.out⟩
                | true =>
                  cases p7 with
                  | false =>
                    go_wp2
                    go_ret
                    exact ⟨by rw [HF.out]; rfl, B.out⟩
                  | true =>
                    go_wp2
                    go_ret
                    exact ⟨by rw [HF.out]; rfl, B.out⟩
end Go.Proofs.Ytbfnjfmnblafaaa.Qry
