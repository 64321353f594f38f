/- Del. -/
import Derived.Test.YtbfnjfmnblafaaaQ12
import Derived.IntWalk
namespace Go.Proofs.Ytbfnjfmnblafaaa.Flow
open Go.RowKit
theorem vals_put {a : Act} {d : Nat} {v : Value} (h : d < a.tmps.size) : vals (a.put (some d) v) d = v := getD_same _ _ _ h
theorem vals_put_ne {a : Act} {d t : Nat} {v : Value} (h : d ≠ t) : vals (a.put (some d) v) t = vals a t := getD_other _ _ _ _ h
end Go.Proofs.Ytbfnjfmnblafaaa.Flow
namespace Go.Proofs.Ytbfnjfmnblafaaa.Qry
open Go.RowKit

theorem Ents.take {w : World} {A : Option Addr} {n c : Nat} {l : List Ent} (h : Ents w A n c l) (k : Nat) (hk : k ≤ n) : Ents w A k c (l.take k) :=
  ⟨by rw [List.length_take, h.len]; omega, Nat.le_trans hk h.le, h.small, h.nil, fun ad e h0 => by
    obtain ⟨b, o, e2, hc⟩ := h.spot ad e (by omega)
    refine ⟨b, o, e2, fun j hj => ?_⟩
    rw [List.length_take] at hj
    rw [List.getElem_take]
    exact hc j (by omega), fun e he => h.rows e (List.mem_of_mem_take he)⟩
/-- What is left of a slice behind k entries. -/
theorem Ents.drop {w : World} {b n c : Nat} {l : List Ent} (h : Ents w (some ⟨b, 0, none⟩) n c l) (k : Nat) (hk : k ≤ n) : Ents w (if c = k then some ⟨b, 0, none⟩ else some ⟨b, k * 13, none⟩) (n - k) (c - k) (l.drop k) := by
  refine ⟨by rw [List.length_drop, h.len], by have := h.le; omega, by have := h.small; omega, fun e => (by split at e <;> cases e), fun ad e h0 => ?_, fun e he => h.rows e (List.mem_of_mem_drop he)⟩
  have hle := h.le
  rw [if_neg (by omega)] at e
  cases e
  obtain ⟨b', o', e2, hc⟩ := h.spot _ rfl (by omega)
  cases e2
  refine ⟨b, k * 13, rfl, fun j hj => ?_⟩
  rw [List.length_drop] at hj
  have := hc (k + j) (by omega)
  rw [List.getElem_drop]
  rw [show k * 13 + j * 13 = 0 + (k + j) * 13 by omega]
  exact this
/-- The stages of Del: an empty row, the entries ahead, those behind besides. -/
def S36 (B : Nat) (_g : Nat) (L : List Ent) (k : Nat) : Nat → Value → Value → Value → World → Prop
  | 0, _, _, _, _ => True
  | 1, v1, _, _, w => w.ownsRow B 29 13 v1 0 []
  | 2, _, v2, _, w => w.ownsRow B 29 13 v2 k ((L.take k).flatMap Ent.cells)
  | _, _, _, v3, w => w.ownsRow B 29 13 v3 (k + (L.length - (k + 1))) ((L.take k).flatMap Ent.cells ++ (L.drop (k + 1)).flatMap Ent.cells)
theorem SRd.setIdx {w : World} {A : Option Addr} {n c : Nat} {l : List ByteArray} {g n0 c0 : Nat} {A0 : Option Addr} {t : TypeId} {fr : Nat × Nat} {v : Value} (h : SRd w A n c l) (hg : w.heap[g]? = some (.cells #[.slice A0 n0 c0] t fr)) : SRd (w.setCell ⟨g, 0, none⟩ v) A n c l :=
  ⟨h.len, h.le, h.small, h.nil, fun ad e hn => by
    obtain ⟨b, o, e2, hc⟩ := h.spot ad e hn
    refine ⟨b, o, e2, fun j hj => ?_⟩
    have h1 := hc j hj
    by_cases hb : b = g
    · subst hb
      simp only [World.cell?, hg] at h1
      exfalso
      match o + j, h1 with
      | 0, h1 => simp at h1
      | i + 1, h1 => simp at h1
    · rw [← h1]
      refine World.cell?_of_block ?_
      show (w.setCell ⟨g, 0, none⟩ v).heap[b]? = w.heap[b]?
      exact heap_setCell_other _ _ _ _ hb⟩
theorem idx_set {w w4 : World} {g B n0 c0 m : Nat} {A0 : Option Addr} {v3 : Value} {L' : List Ent} (hw4 : Below w.heap.size w w4) (hg : w.heap[g]? = some (.cells #[.slice A0 n0 c0] 63 (0, 0))) (hB : B = w.heap.size)
    (ho : w4.ownsRow B 29 13 v3 m (L'.flatMap Ent.cells)) (hm : L'.length = m) (hr : ∀ e ∈ L', SRd w4 e.sA e.sn e.sc e.ss) : Idx (w4.setCell ⟨g, 0, none⟩ v3) g L' ∧ w.grownBy (w4.setCell ⟨g, 0, none⟩ v3) (some g) := by
  have hlt : g < w.heap.size := (Array.getElem?_eq_some_iff.1 hg).1
  have hg4 : w4.heap[g]? = some (.cells #[.slice A0 n0 c0] 63 (0, 0)) := (hw4.block g hlt).trans hg
  refine ⟨⟨v3, by simpa using heap_setCell_same w4 g 0 _ 63 v3 hg4, ?_, fun e he => (hr e he).setIdx hg4⟩, ⟨hw4.os, hw4.tape, hw4.output, by simpa using hw4.size, fun k hk hne => ?_⟩⟩
  · rw [hm]
    refine row_lower (World.ownsRow.kept ho (row := some g) ⟨rfl, rfl, rfl, by simp, fun k _ hne => ?_⟩ ?_) (show g + 1 ≤ B by omega)
    · exact heap_setCell_other _ _ _ _ (fun e => hne (by rw [show k = g from e]))
    · right
      intro e
      have := (World.ownsRow.lt ho g e).1
      omega
  · rw [heap_setCell_other _ _ _ _ (fun e => hne (by rw [show k = g from e]))]
    exact hw4.block k hk
theorem slice_of_own {w : World} {base size : Nat} {e : TypeId} {v : Value} {n : Nat} {xs : List Value} (h : w.ownsRow base e size v n xs) : ∃ A c, v = .slice A n c := by
  rcases h.2 with ⟨rfl, rfl⟩ | ⟨g, cap, cur, rfl, _⟩
  · exact ⟨none, 0, rfl⟩
  · exact ⟨_, cap, rfl⟩
theorem erase_no {L : List Ent} {k : Nat} {hk : k < L.length} {id : Int} (h : L[k].it.id = id) (hnd : (L.map (·.it.id)).Nodup) : ∀ x ∈ L.take k ++ L.drop (k + 1), x.it.id ≠ id := by
  intro x hx e
  have hsp : L = L.take k ++ L[k] :: L.drop (k + 1) := by rw [← List.drop_eq_getElem_cons hk, List.take_append_drop]
  rw [hsp, List.map_append, List.map_cons] at hnd
  obtain ⟨_, h2, h3⟩ := List.nodup_append.1 hnd
  rcases List.mem_append.1 hx with h1 | h1
  · exact h3 x.it.id (List.mem_map.2 ⟨x, h1, rfl⟩) L[k].it.id (List.mem_cons_self ..) (by rw [e, h])
  · exact (List.nodup_cons.1 h2).1 (List.mem_map.2 ⟨x, h1, by rw [e, h]⟩)
def DelPost (w : World) (g : Nat) (L : List Ent) (id : Int) (e : Ending) (w' : World) : Prop :=
  (∃ b, e = .returned (.bool b)) ∧ ∃ L', Idx w' g L' ∧ L'.Sublist L ∧ ((L.map (·.it.id)).Nodup → ∀ x ∈ L', x.it.id ≠ id) ∧ w.grownBy w' (some g)
def G36 (g b n c k : Nat) (A2 : Option Addr) : Nat → Value → World → Prop
  | 0 => fun v _ => v = .pointer (some ⟨g, 0, none⟩)
  | 1 => fun _ _ => True
  | 2 => fun v _ => v = .pointer (some ⟨g, 0, none⟩)
  | 3 => fun v _ => v = .pointer (some ⟨g, 0, none⟩)
  | 4 => fun v _ => v = .pointer (some ⟨g, 0, none⟩)
  | 5 => fun v _ => v = .slice (some ⟨b, 0, none⟩) n c
  | 6 => fun v _ => v = .int .i64 k
  | 7 => fun v _ => v = .slice (some ⟨b, 0, none⟩) k c
  | 8 => fun _ _ => True
  | 9 => fun v _ => v = .pointer (some ⟨g, 0, none⟩)
  | 10 => fun v _ => v = .pointer (some ⟨g, 0, none⟩)
  | 11 => fun v _ => v = .pointer (some ⟨g, 0, none⟩)
  | 12 => fun v _ => v = .slice (some ⟨b, 0, none⟩) n c
  | 13 => fun v _ => v = .int .i64 k
  | 14 => fun v _ => v = .int .i64 ((k : Int) + 1)
  | 15 => fun v _ => v = .slice A2 (n - (k + 1)) (c - (k + 1))
  | 16 => fun _ _ => True
  | 17 => fun v _ => v = .pointer (some ⟨g, 0, none⟩)
  | 18 => fun v _ => v = .pointer (some ⟨g, 0, none⟩)
  | _ => fun _ _ => True
theorem G36_pure (g b n c k : Nat) (A2 : Option Addr) : ∀ i v w w', G36 g b n c k A2 i v w → G36 g b n c k A2 i v w' := by
  intro i v w w' h
  match i, h with
  | 0, h => exact h
  | 1, h => exact h
  | 2, h => exact h
  | 3, h => exact h
  | 4, h => exact h
  | 5, h => exact h
  | 6, h => exact h
  | 7, h => exact h
  | 8, h => exact h
  | 9, h => exact h
  | 10, h => exact h
  | 11, h => exact h
  | 12, h => exact h
  | 13, h => exact h
  | 14, h => exact h
  | 15, h => exact h
  | 16, h => exact h
  | 17, h => exact h
  | 18, h => exact h
  | _ + 19, _ => exact trivial
set_option maxRecDepth 100000 in
set_option maxHeartbeats 4000000 in
theorem del_any (g : Nat) (L : List Ent) (id : Int) (w : World) (h : Idx w g L) (hL : L.length ≤ 1000000) :
    Calls Try.prog 36 #[.pointer (some ⟨g, 0, none⟩), .int .i64 id] w (DelPost w g L id) := by
  have HI := Lib.hid h
  go_enter Try.func36, Try.ntmps36
  go_wp2_with fail
  refine (at_any g L id w h).mono ?_
  rintro e w1 ⟨⟨k, hk, rfl, hid⟩ | ⟨rfl, hno⟩, rfl⟩
  · obtain ⟨A, c, hg, hc, hE, hA, hO⟩ := h.open_
    have HID := Lib.hid hid
    have HG := Lib.hid hg
    obtain ⟨n, hn⟩ : ∃ n, n = L.length := ⟨_, rfl⟩
    rw [← hn] at hc hE hk hL
    obtain ⟨ad, hAd⟩ : ∃ ad, A = some ad := by
      cases A with
      | none => have := hE.nil rfl; have := hE.le; omega
      | some ad => exact ⟨ad, rfl⟩
    obtain ⟨b, rfl, hb⟩ := hA ad hAd
    subst hAd
    have hle := hE.le
    have hsm := hE.small
    have HE := Lib.hid hE
    have HN := Lib.hid hn
    have HK := Lib.hid (show k ≤ n by omega)
    obtain ⟨A2, hA2⟩ : ∃ A2, (if c = k + 1 then some (⟨b, 0, none⟩ : Addr) else some ⟨b, (k + 1) * 13, none⟩) = A2 := ⟨_, rfl⟩
    have hdr := hE.drop (k + 1) (by omega)
    rw [hA2] at hdr
    have HD := Lib.hid hdr
    have HA2 := Lib.hid hA2
    obtain ⟨B, hB⟩ : ∃ B, B = w.heap.size := ⟨_, rfl⟩
    have HB := Lib.hid hB
    have HC : Hid (∀ w', Below w.heap.size w w' → w'.cell? ⟨g, 0, none⟩ = some (.slice (some ⟨b, 0, none⟩) n c)) := Lib.hid (fun w' hb => (hb.cell (World.block_lt_of_cell? w _ hc)).trans hc)
    have hk1 : (k : Int) ≤ c := by omega
    have hk2 : (k : Int) ≤ n := by omega
    have hk3 : IntKind.i64.wrap ((k : Int) + 1) = (k : Int) + 1 := IntWalk.i64_in _ (by omega)
    have hk4 : (k : Int) + 1 ≤ n := by omega
    have hk5 : (n : Int) ≤ c := by omega
    have hk6 : 0 ≤ (k : Int) + 1 := by omega
    have hk7 : ((k : Int) + 1).toNat = k + 1 := by omega
    have hk8 : (k : Int) + 1 ≤ c := by omega
    clear hA2 hdr hB hn hE hg hid hO hA h
    go_wp2_with fail
    refine Flow.wp_region_chain (m := 19) (by kernel_rfl) [1, 8, 16] (G36 g b n c k A2) (fun st f w => S36 B g L k st (f 12) (f 19) (f 27) w) (by kernel_rfl) rfl (by kernel_rfl) (by decide) (G36_pure g b n c k A2) ?indep ?start ?loc ?locC ?fin
    case indep =>
      intro st f f' w h hs
      have e12 : f 12 = f' 12 := h 1 _ 12 (by decide) rfl rfl
      have e19 : f 19 = f' 19 := h 8 _ 19 (by decide) rfl rfl
      have e27 : f 27 = f' 27 := h 16 _ 27 (by decide) rfl rfl
      show S36 B g L k st (f' 12) (f' 19) (f' 27) w
      rw [← e12, ← e19, ← e27]
      exact hs
    case start => exact fun w hw hh => trivial
    case loc =>
      intro i o hi ho hno a w hw hk
      match i, hi, ho with
      | 0, _, ho =>
        have ho2 := Option.some.inj ho; clear ho; subst ho2
        have r0 : a.tmps.getD 0 undef = .pointer (some ⟨g, 0, none⟩) := (hk 0 (Flow.mem_looks (by kernel_rfl))).before (by kernel_rfl)
        rw [if_pos (Flow.wanted_free rfl _)]
        refine step_run (v := .pointer (some ⟨g, 0, none⟩)) (w' := w) ?_ ⟨rfl, rfl⟩
        simp [execOp, Act.eval, r0, go_sem]
      | 1, _, _ => exact absurd (by decide) hno
      | 2, _, ho =>
        have ho2 := Option.some.inj ho; clear ho; subst ho2
        have r0 : a.tmps.getD 0 undef = .pointer (some ⟨g, 0, none⟩) := (hk 0 (Flow.mem_looks (by kernel_rfl))).before (by kernel_rfl)
        rw [if_pos (Flow.wanted_free rfl _)]
        refine step_run (v := .pointer (some ⟨g, 0, none⟩)) (w' := w) ?_ ⟨rfl, rfl⟩
        simp [execOp, Act.eval, r0, go_sem]
      | 3, _, ho =>
        have ho2 := Option.some.inj ho; clear ho; subst ho2
        have r13 : a.tmps.getD 13 undef = .pointer (some ⟨g, 0, none⟩) := (hk 13 (Flow.mem_looks (by kernel_rfl))).by_ 2 (by kernel_rfl) (by decide)
        rw [if_pos (Flow.wanted_free rfl _)]
        refine step_run (v := .pointer (some ⟨g, 0, none⟩)) (w' := w) ?_ ⟨rfl, rfl⟩
        simp [execOp, Act.eval, r13, go_sem]
      | 4, _, ho =>
        have ho2 := Option.some.inj ho; clear ho; subst ho2
        have r14 : a.tmps.getD 14 undef = .pointer (some ⟨g, 0, none⟩) := (hk 14 (Flow.mem_looks (by kernel_rfl))).by_ 3 (by kernel_rfl) (by decide)
        rw [if_pos (Flow.wanted_free rfl _)]
        refine step_run (v := .pointer (some ⟨g, 0, none⟩)) (w' := w) ?_ ⟨rfl, rfl⟩
        simp [execOp, Act.eval, r14, go_sem]
      | 5, _, ho =>
        have ho2 := Option.some.inj ho; clear ho; subst ho2
        have r15 : a.tmps.getD 15 undef = .pointer (some ⟨g, 0, none⟩) := (hk 15 (Flow.mem_looks (by kernel_rfl))).by_ 4 (by kernel_rfl) (by decide)
        rw [if_pos (Flow.wanted_free rfl _)]
        have hc0 := HC.out w hw
        refine step_run (v := .slice (some ⟨b, 0, none⟩) n c) (w' := w) ?_ ⟨rfl, rfl⟩
        simp [execOp, Act.eval, r15, hc0, go_sem]
      | 6, _, ho =>
        have ho2 := Option.some.inj ho; clear ho; subst ho2
        have r5 : a.tmps.getD 5 undef = .int .i64 k := (hk 5 (Flow.mem_looks (by kernel_rfl))).before (by kernel_rfl)
        rw [if_pos (Flow.wanted_free rfl _)]
        refine step_run (v := .int .i64 k) (w' := w) ?_ ⟨rfl, rfl⟩
        simp [execOp, Act.eval, r5, go_sem]
      | 7, _, ho =>
        have ho2 := Option.some.inj ho; clear ho; subst ho2
        have r16 : a.tmps.getD 16 undef = .slice (some ⟨b, 0, none⟩) n c := (hk 16 (Flow.mem_looks (by kernel_rfl))).by_ 5 (by kernel_rfl) (by decide)
        have r17 : a.tmps.getD 17 undef = .int .i64 k := (hk 17 (Flow.mem_looks (by kernel_rfl))).by_ 6 (by kernel_rfl) (by decide)
        rw [if_pos (Flow.wanted_free rfl _)]
        refine step_run (v := .slice (some ⟨b, 0, none⟩) k c) (w' := w) ?_ ⟨rfl, rfl⟩
        simp [execOp, Act.eval, r16, r17, hk1, go_sem]
      | 8, _, _ => exact absurd (by decide) hno
      | 9, _, ho =>
        have ho2 := Option.some.inj ho; clear ho; subst ho2
        have r0 : a.tmps.getD 0 undef = .pointer (some ⟨g, 0, none⟩) := (hk 0 (Flow.mem_looks (by kernel_rfl))).before (by kernel_rfl)
        rw [if_pos (Flow.wanted_free rfl _)]
        refine step_run (v := .pointer (some ⟨g, 0, none⟩)) (w' := w) ?_ ⟨rfl, rfl⟩
        simp [execOp, Act.eval, r0, go_sem]
      | 10, _, ho =>
        have ho2 := Option.some.inj ho; clear ho; subst ho2
        have r20 : a.tmps.getD 20 undef = .pointer (some ⟨g, 0, none⟩) := (hk 20 (Flow.mem_looks (by kernel_rfl))).by_ 9 (by kernel_rfl) (by decide)
        rw [if_pos (Flow.wanted_free rfl _)]
        refine step_run (v := .pointer (some ⟨g, 0, none⟩)) (w' := w) ?_ ⟨rfl, rfl⟩
        simp [execOp, Act.eval, r20, go_sem]
      | 11, _, ho =>
        have ho2 := Option.some.inj ho; clear ho; subst ho2
        have r21 : a.tmps.getD 21 undef = .pointer (some ⟨g, 0, none⟩) := (hk 21 (Flow.mem_looks (by kernel_rfl))).by_ 10 (by kernel_rfl) (by decide)
        rw [if_pos (Flow.wanted_free rfl _)]
        refine step_run (v := .pointer (some ⟨g, 0, none⟩)) (w' := w) ?_ ⟨rfl, rfl⟩
        simp [execOp, Act.eval, r21, go_sem]
      | 12, _, ho =>
        have ho2 := Option.some.inj ho; clear ho; subst ho2
        have r22 : a.tmps.getD 22 undef = .pointer (some ⟨g, 0, none⟩) := (hk 22 (Flow.mem_looks (by kernel_rfl))).by_ 11 (by kernel_rfl) (by decide)
        rw [if_pos (Flow.wanted_free rfl _)]
        have hc0 := HC.out w hw
        refine step_run (v := .slice (some ⟨b, 0, none⟩) n c) (w' := w) ?_ ⟨rfl, rfl⟩
        simp [execOp, Act.eval, r22, hc0, go_sem]
      | 13, _, ho =>
        have ho2 := Option.some.inj ho; clear ho; subst ho2
        have r5 : a.tmps.getD 5 undef = .int .i64 k := (hk 5 (Flow.mem_looks (by kernel_rfl))).before (by kernel_rfl)
        rw [if_pos (Flow.wanted_free rfl _)]
        refine step_run (v := .int .i64 k) (w' := w) ?_ ⟨rfl, rfl⟩
        simp [execOp, Act.eval, r5, go_sem]
      | 14, _, ho =>
        have ho2 := Option.some.inj ho; clear ho; subst ho2
        have r24 : a.tmps.getD 24 undef = .int .i64 k := (hk 24 (Flow.mem_looks (by kernel_rfl))).by_ 13 (by kernel_rfl) (by decide)
        rw [if_pos (Flow.wanted_free rfl _)]
        refine step_run (v := .int .i64 ((k : Int) + 1)) (w' := w) ?_ ⟨rfl, rfl⟩
        simp [execOp, Act.eval, r24, hk3, go_sem]
      | 15, _, ho =>
        have ho2 := Option.some.inj ho; clear ho; subst ho2
        have r23 : a.tmps.getD 23 undef = .slice (some ⟨b, 0, none⟩) n c := (hk 23 (Flow.mem_looks (by kernel_rfl))).by_ 12 (by kernel_rfl) (by decide)
        have r25 : a.tmps.getD 25 undef = .int .i64 ((k : Int) + 1) := (hk 25 (Flow.mem_looks (by kernel_rfl))).by_ 14 (by kernel_rfl) (by decide)
        rw [if_pos (Flow.wanted_free rfl _)]
        refine step_run (v := .slice A2 (n - (k + 1)) (c - (k + 1))) (w' := w) ?_ ⟨rfl, rfl⟩
        rw [← HA2.out]
        simp [execOp, Act.eval, r23, r25, hk4, hk6, hk7, go_sem]
      | 16, _, _ => exact absurd (by decide) hno
      | 17, _, ho =>
        have ho2 := Option.some.inj ho; clear ho; subst ho2
        have r11 : a.tmps.getD 11 undef = .pointer (some ⟨g, 0, none⟩) := (hk 11 (Flow.mem_looks (by kernel_rfl))).by_ 0 (by kernel_rfl) (by decide)
        rw [if_pos (Flow.wanted_free rfl _)]
        refine step_run (v := .pointer (some ⟨g, 0, none⟩)) (w' := w) ?_ ⟨rfl, rfl⟩
        simp [execOp, Act.eval, r11, go_sem]
      | 18, _, ho =>
        have ho2 := Option.some.inj ho; clear ho; subst ho2
        have r28 : a.tmps.getD 28 undef = .pointer (some ⟨g, 0, none⟩) := (hk 28 (Flow.mem_looks (by kernel_rfl))).by_ 17 (by kernel_rfl) (by decide)
        rw [if_pos (Flow.wanted_free rfl _)]
        refine step_run (v := .pointer (some ⟨g, 0, none⟩)) (w' := w) ?_ ⟨rfl, rfl⟩
        simp [execOp, Act.eval, r28, go_sem]
      | _ + 19, hi, _ => exact absurd hi (by omega)
    case locC =>
      intro st i o hc ho a w hw hsz hk hS
      match st, hc, hS with
      | 0, hc, hS =>
        obtain rfl : i = 1 := (Option.some.inj hc).symm
        have ho2 := Option.some.inj ho; clear ho; subst ho2
        refine ⟨rfl, ?_⟩
        refine step_run (v := .slice (some ⟨w.heap.size, 0, none⟩) 0 0) (w' := w.alloc (.cells #[] 29)) (by simp [execOp, Act.eval, go_sem]) ⟨(Below.refl _ _).alloc hw.size _, trivial, ?_⟩
        have e := Flow.vals_put (a := a) (d := 12) (v := .slice (some ⟨w.heap.size, 0, none⟩) 0 0) (by rw [hsz]; show _ < 30; decide)
        show S36 B g L k 1 (Flow.vals (a.put (some 12) _) 12) _ _ _
        rw [e]
        exact own_empty w 29 13 (by rw [HB.out]; exact hw.size)
      | 1, hc, hS =>
        obtain rfl : i = 8 := (Option.some.inj hc).symm
        have ho2 := Option.some.inj ho; clear ho; subst ho2
        refine ⟨rfl, ?_⟩
        have r18 : a.tmps.getD 18 undef = .slice (some ⟨b, 0, none⟩) k c := (hk 18 (Flow.mem_looks (by kernel_rfl))).by_ 7 (by kernel_rfl) (by decide)
        refine step_append (.tmp 12) (.tmp 18) 22 29 zeroE 13 120 rfl Try.underlying22 infoE rfl (by decide) B _ 0 [] rfl hS (some ⟨b, 0, none⟩) k c ((L.take k).flatMap Ent.cells) r18 (((HE.out.take k HK.out).below hw).src) (by unfold maxLen; omega) (by omega) (by rw [HB.out]; exact hw.size) ?_
        intro v' w' hown hg _
        refine ⟨below_grown (Below.refl _ _) hg hw.size (fun j hj => by rw [← HB.out]; exact (World.ownsRow.lt hS j hj).1), trivial, ?_⟩
        have e := Flow.vals_put (a := a) (d := 19) (v := v') (by rw [hsz]; show _ < 30; decide)
        show S36 B g L k 2 _ (Flow.vals (a.put (some 19) _) 19) _ _
        rw [e]
        rw [Nat.zero_add, List.nil_append] at hown
        exact hown
      | 2, hc, hS =>
        obtain rfl : i = 16 := (Option.some.inj hc).symm
        have ho2 := Option.some.inj ho; clear ho; subst ho2
        refine ⟨rfl, ?_⟩
        have r26 : a.tmps.getD 26 undef = .slice A2 (n - (k + 1)) (c - (k + 1)) := (hk 26 (Flow.mem_looks (by kernel_rfl))).by_ 15 (by kernel_rfl) (by decide)
        refine step_append (.tmp 19) (.tmp 26) 22 29 zeroE 13 120 rfl Try.underlying22 infoE rfl (by decide) B _ k _ rfl hS A2 (n - (k + 1)) (c - (k + 1)) ((L.drop (k + 1)).flatMap Ent.cells) r26 ((HD.out.below hw).src) (by unfold maxLen; omega) (by omega) (by rw [HB.out]; exact hw.size) ?_
        intro v' w' hown hg _
        refine ⟨below_grown (Below.refl _ _) hg hw.size (fun j hj => by rw [← HB.out]; exact (World.ownsRow.lt hS j hj).1), trivial, ?_⟩
        have e := Flow.vals_put (a := a) (d := 27) (v := v') (by rw [hsz]; show _ < 30; decide)
        show S36 B g L k 3 _ _ (Flow.vals (a.put (some 27) _) 27) _
        rw [e]
        rw [HN.out] at hown
        exact hown
      | _ + 3, hc, _ => exact absurd hc (by simp)
    case fin =>
      intro a4 w4 hw4 hd4 hs4 hg4 hold hS
      obtain ⟨v3, hv3⟩ : ∃ v, v = a4.tmps.getD 27 undef := ⟨_, rfl⟩
      have hS3 : w4.ownsRow B 29 13 (a4.tmps.getD 27 undef) (k + (L.length - (k + 1))) ((L.take k).flatMap Ent.cells ++ (L.drop (k + 1)).flatMap Ent.cells) := hS
      rw [← hv3, ← List.flatMap_append] at hS3
      have ea := Flow.act_eq (a := a4) [.pointer (some ⟨g, 0, none⟩), a4.tmps.getD 1 undef, a4.tmps.getD 2 undef, a4.tmps.getD 3 undef, .bool false, a4.tmps.getD 5 undef, a4.tmps.getD 6 undef, a4.tmps.getD 7 undef, a4.tmps.getD 8 undef, a4.tmps.getD 9 undef, a4.tmps.getD 10 undef, a4.tmps.getD 11 undef, a4.tmps.getD 12 undef, a4.tmps.getD 13 undef, a4.tmps.getD 14 undef, a4.tmps.getD 15 undef, a4.tmps.getD 16 undef, a4.tmps.getD 17 undef, a4.tmps.getD 18 undef, a4.tmps.getD 19 undef, a4.tmps.getD 20 undef, a4.tmps.getD 21 undef, a4.tmps.getD 22 undef, a4.tmps.getD 23 undef, a4.tmps.getD 24 undef, a4.tmps.getD 25 undef, a4.tmps.getD 26 undef, v3, a4.tmps.getD 28 undef, .pointer (some ⟨g, 0, none⟩)] hs4 hd4 (by
        intro t ht
        match t, ht with
        | 0, _ => exact Flow.old_at hold 0 (by kernel_rfl)
        | 1, _ => exact rfl
        | 2, _ => exact rfl
        | 3, _ => exact rfl
        | 4, _ => exact Flow.old_at hold 4 (by kernel_rfl)
        | 5, _ => exact rfl
        | 6, _ => exact rfl
        | 7, _ => exact rfl
        | 8, _ => exact rfl
        | 9, _ => exact rfl
        | 10, _ => exact rfl
        | 11, _ => exact rfl
        | 12, _ => exact rfl
        | 13, _ => exact rfl
        | 14, _ => exact rfl
        | 15, _ => exact rfl
        | 16, _ => exact rfl
        | 17, _ => exact rfl
        | 18, _ => exact rfl
        | 19, _ => exact rfl
        | 20, _ => exact rfl
        | 21, _ => exact rfl
        | 22, _ => exact rfl
        | 23, _ => exact rfl
        | 24, _ => exact rfl
        | 25, _ => exact rfl
        | 26, _ => exact rfl
        | 27, _ => exact hv3.symm
        | 28, _ => exact rfl
        | 29, _ => exact hg4 18 _ 29 (by decide) rfl rfl
        | t + 30, ht => exact absurd ht (by simp))
      rw [ea]
      generalize a4.tmps.getD 1 undef = z1
      generalize a4.tmps.getD 2 undef = z2
      generalize a4.tmps.getD 3 undef = z3
      generalize a4.tmps.getD 5 undef = z5
      generalize a4.tmps.getD 6 undef = z6
      generalize a4.tmps.getD 7 undef = z7
      generalize a4.tmps.getD 8 undef = z8
      generalize a4.tmps.getD 9 undef = z9
      generalize a4.tmps.getD 10 undef = z10
      generalize a4.tmps.getD 11 undef = z11
      generalize a4.tmps.getD 12 undef = z12
      generalize a4.tmps.getD 13 undef = z13
      generalize a4.tmps.getD 14 undef = z14
      generalize a4.tmps.getD 15 undef = z15
      generalize a4.tmps.getD 16 undef = z16
      generalize a4.tmps.getD 17 undef = z17
      generalize a4.tmps.getD 18 undef = z18
      generalize a4.tmps.getD 19 undef = z19
      generalize a4.tmps.getD 20 undef = z20
      generalize a4.tmps.getD 21 undef = z21
      generalize a4.tmps.getD 22 undef = z22
      generalize a4.tmps.getD 23 undef = z23
      generalize a4.tmps.getD 24 undef = z24
      generalize a4.tmps.getD 25 undef = z25
      generalize a4.tmps.getD 26 undef = z26
      generalize a4.tmps.getD 28 undef = z28
      clear ea
      obtain ⟨hi5, hgr5⟩ := idx_set (L' := L.take k ++ L.drop (k + 1)) hw4 HG.out HB.out hS3 (by rw [List.length_append, List.length_take, List.length_drop]; omega) (fun e he => (HE.out.rows e (by
        rcases List.mem_append.1 he with h1 | h1
        · exact List.mem_of_mem_take h1
        · exact List.mem_of_mem_drop h1)).below hw4)
      have hg4' : w4.heap[g]? = some (.cells #[.slice (some ⟨b, 0, none⟩) L.length c] 63 (0, 0)) := (hw4.block g (Array.getElem?_eq_some_iff.1 HG.out).1).trans HG.out
      have hc4 : w4.cell? ⟨g, 0, none⟩ = some (.slice (some ⟨b, 0, none⟩) L.length c) := by simp [World.cell?, hg4']
      have hf4 : w4.frozen? ⟨g, 0, none⟩ = false := frozen_of_row _ g 0 _ 63 hg4'
      obtain ⟨A3, c3, hv4⟩ := slice_of_own hS3
      have H5 := Lib.hid hi5
      have H6 := Lib.hid hgr5
      subst hv4
      clear hd4 hs4 hg4 hold hw4 hS hS3 hv3 hg4' hi5 hgr5
      go_wp2
      go_ret
      refine ⟨⟨_, rfl⟩, _, H5.out, ?_, fun hnd x hx => ?_, H6.out⟩
      · rw [← List.eraseIdx_eq_take_drop_succ]; exact List.eraseIdx_sublist _ _
      · exact erase_no HID.out hnd x hx
  · go_wp2
    go_ret
    exact ⟨⟨_, rfl⟩, L, HI.out, List.Sublist.refl _, fun _ => hno, World.grownBy.refl _ _⟩
end Go.Proofs.Ytbfnjfmnblafaaa.Qry
