/- Put. -/
import Derived.Test.YtbfnjfmnblafaaaQ13
import Derived.Deep.CutBlock
import Derived.Great.BuildSlice
namespace Go.Proofs.Ytbfnjfmnblafaaa.Qry
open Go.RowKit

/-- What is left of a slice behind k entries. -/
theorem Ents.drop' {w : World} {A : Option Addr} {n c : Nat} {l : List Ent} (h : Ents w A n c l) (hA : ∀ ad, A = some ad → ∃ b, ad = ⟨b, 0, none⟩) (k : Nat) (hk : k ≤ n) : Ents w (if c = k then A else A.map (·.add (k * 13))) (n - k) (c - k) (l.drop k) := by
  cases A with
  | none =>
    have h1 := h.nil rfl
    have h2 := h.le
    have h3 := h.len
    obtain rfl : n = 0 := by omega
    obtain rfl : k = 0 := by omega
    subst h1
    simpa using h
  | some ad =>
    obtain ⟨b, rfl⟩ := hA ad rfl
    have := h.drop k hk
    simpa [add_off] using this
/-- One stands ahead of another. -/
def bef (x e : Ent) : Bool := decide (x.it.tick < e.it.tick) || ((x.it.tick == e.it.tick) && decide (x.it.id < e.it.id))
def PutCut (L : List Ent) (e : Ent) (k : Nat) : Prop := k ≤ L.length ∧ (∀ x ∈ L.take k, bef x e = true) ∧ ∀ (h : k < L.length), bef L[k] e = false
def Good (L : List Ent) : Prop := inOrder L ∧ (L.map (·.it.id)).Nodup ∧ ∀ e ∈ L, e.sn < 9000
theorem ent_fill (e : Ent) : Instr.fill (fun i => some (i * 13, 13)) ((Array.range (1 * 13)).map (zeroE.cells[· % zeroE.cells.size]!)) [(0, Value.agg e.cells.toArray)] = some e.cells.toArray := by kernel_rfl
theorem ent_build (w : World) (e : Ent) : (Instr.buildSlice 22 1 #[(0, .agg e.cells.toArray)]).run Try.prog w = .ok (.slice (some ⟨w.heap.size, 0, none⟩) 1 1) (w.alloc (.cells e.cells.toArray 29)) := by
  obtain ⟨i0, hi, hz0, hz1, hz2⟩ := info_parts infoE
  refine run_buildSlice w 22 29 1 _ _ i0 zeroE Try.underlying22 hi hz0 (by rw [hz1]; decide) (by rw [hz1]; decide) ?_
  rw [hz1]
  exact ent_fill e
theorem step_build1 {o : Oper} {a : Act} {w : World} {post : Value → World → Prop} (x : Tmp) (ho : o.op = .buildSlice 22 1 #[(0, .tmp x)]) (e : Ent) (hx : a.tmps.getD x undef = .agg e.cells.toArray)
    (hp : post (.slice (some ⟨w.heap.size, 0, none⟩) 1 1) (w.alloc (.cells e.cells.toArray 29))) : Flow.step Try.prog o a w post := by
  refine step_run ?_ hp
  unfold execOp
  simp only [ho, Act.eval, List.map_toArray, List.map_cons, List.map_nil, hx, Sem.run_bind, ent_build w e, Result.andThen_ok, Sem.run_pure]
theorem ent_src {w : World} {j : Nat} {e : Ent} (h : At w j 0 e.cells) : Src w (some ⟨j, 0, none⟩) 1 1 13 e.cells := by
  refine .inr ⟨_, rfl, by rw [Ent.cells_length], fun i u hu => ?_, ent_one e⟩
  obtain ⟨hi, rfl⟩ := List.getElem?_eq_some_iff.1 hu
  rw [add_off]
  exact h i hi
theorem SRd.grown {w w' : World} {A : Option Addr} {n c : Nat} {l : List ByteArray} {row : Option Nat} (h : SRd w A n c l) (hg : w.grownBy w' row) (hne : ∀ ad, A = some ad → some ad.block ≠ row) : SRd w' A n c l :=
  ⟨h.len, h.le, h.small, h.nil, fun ad e hn => by
    obtain ⟨b, o, e2, hc⟩ := h.spot ad e hn
    refine ⟨b, o, e2, fun j hj => ?_⟩
    rw [← hc j hj]
    refine World.cell?_of_block (hg.block b (World.block_lt_of_cell? w _ (hc j hj)) ?_)
    have := hne ad e
    rw [e2] at this
    exact this⟩
theorem SRd.grownIdx {w w' : World} {A : Option Addr} {n c : Nat} {l : List ByteArray} {g : Nat} {L : List Ent} (h : SRd w A n c l) (hi : Idx w g L) (hg : w.grownBy w' (some g)) : SRd w' A n c l :=
  ⟨h.len, h.le, h.small, h.nil, fun ad e hn => by
    obtain ⟨b, o, e2, hc⟩ := h.spot ad e hn
    refine ⟨b, o, e2, fun j hj => ?_⟩
    have h1 := hc j hj
    rw [← h1]
    refine World.cell?_of_block (hg.block b (World.block_lt_of_cell? w _ h1) ?_)
    intro hb
    obtain ⟨v, hgc, ho⟩ := hi
    obtain ⟨A0, c0, rfl⟩ := slice_of_own ho.1
    obtain rfl : b = g := Option.some.inj hb
    simp only [World.cell?, hgc] at h1
    match o + j, h1 with
    | 0, h1 => simp at h1
    | i + 1, h1 => simp at h1⟩
theorem grow_trans {w w1 w2 : World} {row : Option Nat} (h : w.grownBy w1 row) (k : w1.grownBy w2 row) : w.grownBy w2 row :=
  ⟨k.os.trans h.os, k.tape.trans h.tape, k.output.trans h.output, Nat.le_trans h.size k.size, fun i hi hne => (k.block i (Nat.lt_of_lt_of_le hi h.size) hne).trans (h.block i hi hne)⟩
theorem grow_of_below {w w1 : World} {row : Option Nat} (h : Below w.heap.size w w1) : w.grownBy w1 row := ⟨h.os, h.tape, h.output, h.size, fun i hi _ => h.block i hi⟩
theorem grow_below {w w1 w2 : World} {row : Option Nat} (h : Below w.heap.size w w1) (k : w1.grownBy w2 row) : w.grownBy w2 row := grow_trans (grow_of_below h) k
theorem put_more {L : List Ent} {e : Ent} {k : Nat} (h : ∀ x ∈ L.take k, bef x e = true) (hk : k < L.length) (hb : bef L[k] e = true) : ∀ x ∈ L.take (k + 1), bef x e = true := fun x hx => by
  rw [List.take_succ_eq_append_getElem hk] at hx
  rcases List.mem_append.1 hx with h1 | h1
  · exact h x h1
  · obtain rfl := List.mem_singleton.1 h1
    exact hb
theorem bef_beh {x e : Ent} (h : bef x e = true) : beh x.it.tick x.it.id e = true := by
  simp only [bef, beh, Bool.or_eq_true, Bool.and_eq_true, decide_eq_true_eq, beq_iff_eq] at *
  omega
theorem beh_of_not {x e : Ent} (h : bef x e = false) (hne : x.it.id ≠ e.it.id) : beh e.it.tick e.it.id x = true := by
  have h' : ¬ bef x e = true := by rw [h]; decide
  simp only [bef, beh, Bool.or_eq_true, Bool.and_eq_true, decide_eq_true_eq, beq_iff_eq] at *
  omega
theorem good_put {L0 L : List Ent} {e : Ent} {A : Option Addr} {c k : Nat} (hg : Good L0) (hs : L.Sublist L0) (hno : (L0.map (·.it.id)).Nodup → ∀ x ∈ L, x.it.id ≠ e.it.id) (hc : PutCut L e k) (h9 : e.sn < 9000) : Good (L.take k ++ e.re A c :: L.drop k) := by
  obtain ⟨g1, g2, g3⟩ := hg
  have o1 : inOrder L := g1.sublist hs
  have n1 : (L.map (·.it.id)).Nodup := g2.sublist (hs.map _)
  have hno' := hno g2
  obtain ⟨hk, hbef, hnot⟩ := hc
  have hsp : L = L.take k ++ L.drop k := (List.take_append_drop k L).symm
  have o2 := o1
  unfold inOrder at o2
  rw [hsp] at o2
  obtain ⟨p1, p2, p3⟩ := List.pairwise_append.1 o2
  have hdrop : ∀ y ∈ L.drop k, beh e.it.tick e.it.id y = true := by
    intro y hy
    rcases Nat.lt_or_ge k L.length with hkl | hkl
    · rw [List.drop_eq_getElem_cons hkl] at hy p2
      have h1 := beh_of_not (hnot hkl) (hno' _ (List.getElem_mem hkl))
      rcases List.mem_cons.1 hy with rfl | h2
      · exact h1
      · exact beh_trans h1 (List.rel_of_pairwise_cons p2 h2)
    · rw [List.drop_of_length_le hkl] at hy
      cases hy
  refine ⟨List.pairwise_append.2 ⟨p1, List.pairwise_cons.2 ⟨hdrop, p2⟩, fun x hx y hy => ?_⟩, ?_, fun x hx => ?_⟩
  · rcases List.mem_cons.1 hy with rfl | h2
    · exact bef_beh (hbef x hx)
    · exact p3 x hx y h2
  · rw [hsp, List.map_append] at n1
    obtain ⟨q1, q2, q3⟩ := List.nodup_append.1 n1
    rw [List.map_append, List.map_cons]
    refine List.nodup_append.2 ⟨q1, List.nodup_cons.2 ⟨fun hm => ?_, q2⟩, fun x hx y hy => ?_⟩
    · obtain ⟨y, hy, he⟩ := List.mem_map.1 hm
      exact hno' y (List.mem_of_mem_drop hy) he
    · rcases List.mem_cons.1 hy with rfl | h2
      · obtain ⟨z, hz, rfl⟩ := List.mem_map.1 hx
        exact hno' z (List.mem_of_mem_take hz)
      · exact q3 x hx y h2
  · rcases List.mem_append.1 hx with h1 | h1
    · exact g3 x (hs.subset (List.mem_of_mem_take h1))
    · rcases List.mem_cons.1 h1 with rfl | h2
      · exact h9
      · exact g3 x (hs.subset (List.mem_of_mem_drop h2))
/-- The stages of Put. -/
def S29 (B : Nat) (L : List Ent) (e : Ent) (k : Nat) : Nat → Value → Value → Value → Value → Value → Value → World → Prop
  | 0, _, _, _, _, _, _, _ => True
  | 1, v1, _, _, _, _, _, w => w.ownsRow B 29 13 v1 0 []
  | 2, _, v2, _, _, _, _, w => w.ownsRow B 29 13 v2 k ((L.take k).flatMap Ent.cells)
  | 3, _, v2, v3, _, _, _, w => ∃ A c, w.ownsRow B 29 13 v2 k ((L.take k).flatMap Ent.cells) ∧ v3 = .agg (e.re A c).cells.toArray ∧ SRd w A e.sn c e.ss ∧ (∀ j, v2.ownBlock = some j → ∀ ad, A = some ad → ad.block ≠ j) ∧ ∀ ad, A = some ad → ad.block < w.heap.size
  | 4, _, v2, _, v4, _, _, w => ∃ A c j, w.ownsRow B 29 13 v2 k ((L.take k).flatMap Ent.cells) ∧ v4 = .slice (some ⟨j, 0, none⟩) 1 1 ∧ At w j 0 (e.re A c).cells ∧ SRd w A e.sn c e.ss ∧ (∀ j, v2.ownBlock = some j → ∀ ad, A = some ad → ad.block ≠ j) ∧ ∀ ad, A = some ad → ad.block < w.heap.size
  | 5, _, _, _, _, v5, _, w => ∃ A c, w.ownsRow B 29 13 v5 (k + 1) ((L.take k).flatMap Ent.cells ++ (e.re A c).cells) ∧ SRd w A e.sn c e.ss ∧ ∀ j, v5.ownBlock = some j → ∀ ad, A = some ad → ad.block ≠ j
  | _, _, _, _, _, _, v6, w => ∃ A c, w.ownsRow B 29 13 v6 (k + 1 + (L.length - k)) ((L.take k).flatMap Ent.cells ++ (e.re A c).cells ++ (L.drop k).flatMap Ent.cells) ∧ SRd w A e.sn c e.ss
def PutPost (w : World) (g : Nat) (L : List Ent) (e : Ent) (r : Ending) (w' : World) : Prop :=
  (∃ b, r = .returned (.bool b)) ∧ ∃ L', Idx w' g L' ∧ L'.length ≤ L.length + 1 ∧ (Good L → e.sn < 9000 → Good L') ∧ w.grownBy w' (some g)
def G29 (g _be n c k : Nat) (A A2 : Option Addr) (e : Ent) : Nat → Value → World → Prop
  | 0 => fun v _ => v = .pointer (some ⟨g, 0, none⟩)
  | 1 => fun _ _ => True
  | 2 => fun v _ => v = .pointer (some ⟨g, 0, none⟩)
  | 3 => fun v _ => v = .pointer (some ⟨g, 0, none⟩)
  | 4 => fun v _ => v = .pointer (some ⟨g, 0, none⟩)
  | 5 => fun v _ => v = .slice A n c
  | 6 => fun v _ => v = .int .i64 k
  | 7 => fun v _ => v = .slice A k c
  | 8 => fun _ _ => True
  | 9 => fun v _ => v = .agg e.cells.toArray
  | 10 => fun _ _ => True
  | 11 => fun _ _ => True
  | 12 => fun _ _ => True
  | 13 => fun v _ => v = .pointer (some ⟨g, 0, none⟩)
  | 14 => fun v _ => v = .pointer (some ⟨g, 0, none⟩)
  | 15 => fun v _ => v = .pointer (some ⟨g, 0, none⟩)
  | 16 => fun v _ => v = .slice A n c
  | 17 => fun v _ => v = .int .i64 k
  | 18 => fun v _ => v = .slice A2 (n - k) (c - k)
  | 19 => fun _ _ => True
  | 20 => fun v _ => v = .pointer (some ⟨g, 0, none⟩)
  | 21 => fun v _ => v = .pointer (some ⟨g, 0, none⟩)
  | _ => fun _ _ => True
theorem G29_pure (g be n c k : Nat) (A A2 : Option Addr) (e : Ent) : ∀ i v w w', G29 g be n c k A A2 e i v w → G29 g be n c k A A2 e i v w' := by
  intro i v w w' h
  match i, h with
  | 0, h => exact h
  | 1, h => exact h
  | 2, h => exact h
  | 3, h => exact h
  | 4, h => exact h
  | 5, h => exact h
  | 6, h => exact h
  | 7, h => exact h
  | 8, h => exact h
  | 9, h => exact h
  | 10, h => exact h
  | 11, h => exact h
  | 12, h => exact h
  | 13, h => exact h
  | 14, h => exact h
  | 15, h => exact h
  | 16, h => exact h
  | 17, h => exact h
  | 18, h => exact h
  | 19, h => exact h
  | 20, h => exact h
  | 21, h => exact h
  | _ + 22, _ => exact trivial
set_option maxRecDepth 100000 in
set_option maxHeartbeats 8000000 in
theorem put_any (g : Nat) (L0 : List Ent) (e : Ent) (w : World) (h : Idx w g L0) (hL : L0.length ≤ 100000) (hR : SRd w e.sA e.sn e.sc e.ss) (hsn : e.sn < 9000) :
    Calls Try.prog 29 #[.pointer (some ⟨g, 0, none⟩), .agg e.cells.toArray] w (PutPost w g L0 e) := by
  obtain ⟨X, hX⟩ : ∃ X, X = e.cells.toArray := ⟨_, rfl⟩
  rw [← hX]
  have HX := Lib.hid hX
  have HR0 := Lib.hid hR
  have HI0 := Lib.hid h
  have HEi := Lib.hid (show (Try.prog.info? 29).map (·.size) = some e.cells.length by rw [Ent.cells_length]; kernel_rfl)
  have hg0 : g < w.heap.size := by obtain ⟨v, hg, _⟩ := h; exact (Array.getElem?_eq_some_iff.1 hg).1
  clear hX h hR
  go_enter Try.func29, Try.ntmps29
  go_upto_region 1 with (fail)
  obtain ⟨W0, hW0⟩ : ∃ W0, W0 = w.alloc (.cells X 29) := ⟨_, rfl⟩
  rw [← hW0]
  have hB0 : Below w.heap.size w W0 := by rw [hW0]; exact (Below.refl _ _).alloc (Nat.le_refl _) _
  obtain ⟨be, hbe⟩ : ∃ b, b = w.heap.size := ⟨_, rfl⟩
  rw [← hbe]
  have hat : At W0 be 0 e.cells := by rw [hW0, HX.out, hbe]; exact at_alloc 29
  have c0 : W0.cell? ⟨be, 0, none⟩ = some (.int .i64 e.it.id) := hat 0 (by rw [Ent.cells_length]; decide)
  have HBE : Hid (g ≠ be ∧ be < W0.heap.size) := Lib.hid ⟨by omega, by rw [hW0, hbe]; simp⟩
  have B0 := Lib.hid hB0
  have AT0 := Lib.hid hat
  have HIW := Lib.hid (HI0.out.below hB0)
  clear hat hB0 hW0 hbe hg0
  go_wp2_with fail
  refine (del_any g L0 e.it.id W0 HIW.out (by omega)).mono ?_
  rintro r w1 ⟨⟨was, rfl⟩, L, hI1, hsub, hno, hgr⟩
  have hLL : L.length ≤ L0.length := hsub.length_le
  have AT1 : Hid (At w1 be 0 e.cells) := Lib.hid (fun j hj => (World.cell?_of_block (hgr.block be HBE.out.2 (fun e => HBE.out.1 (Option.some.inj e).symm))).trans (AT0.out j hj))
  have HR1 : Hid (SRd w1 e.sA e.sn e.sc e.ss) := Lib.hid ((HR0.out.below B0.out).grownIdx HIW.out hgr)
  have HSUB := Lib.hid hsub
  have HNO := Lib.hid hno
  have HGR := Lib.hid hgr
  obtain ⟨A, c, hg1, hc1, hE, hA, _⟩ := hI1.open_
  have HG1 := Lib.hid hg1
  have HE1 := Lib.hid hE
  have HA := Lib.hid hA
  have hle := hE.le
  have hsm := hE.small
  obtain ⟨n, hn⟩ : ∃ n, n = L.length := ⟨_, rfl⟩
  rw [← hn] at hc1 HE1 hle hLL
  have HN := Lib.hid hn
  have hn2 : n ≤ 100000 := by omega
  clear hsub hno hgr hI1 hg1 hE hA hn hL c0
  go_upto_block 0 with fail
  go_cut [6] from 12 to 65 (fun s6 wx => ∃ k : Nat, s6 = .int .i64 k ∧ PutCut L e k ∧ Below w1.heap.size w1 wx)
  case first =>
    go_wp2_with fail
    go_loopw [6] (fun i wr => ∃ k : Nat, k ≤ n ∧ i = .int .i64 k ∧ (∀ x ∈ L.take k, bef x e = true) ∧ Below w1.heap.size w1 wr) (fun i _ => n - (intOf i).toNat)
    case atStart => exact ⟨0, Nat.zero_le _, rfl, fun x hx => absurd hx (by simp), Below.refl _ _⟩
    case round =>
      obtain ⟨k, hk, rfl, hall, hb⟩ := hrel
      have ALL := Lib.hid hall
      have BB := Lib.hid hb
      have cg : wr.cell? ⟨g, 0, none⟩ = some (.slice A n c) := (hb.cell (World.block_lt_of_cell? w1 _ hc1)).trans hc1
      have ct : wr.cell? ⟨be, 2, none⟩ = some (.int .i64 e.it.tick) := (AT1.out.below hb) 2 (by rw [Ent.cells_length]; decide)
      have ci : wr.cell? ⟨be, 0, none⟩ = some (.int .i64 e.it.id) := (AT1.out.below hb) 0 (by rw [Ent.cells_length]; decide)
      have HEw := Lib.hid (HE1.out.below hb)
      clear hall hb hc1
      by_cases hlt : k < n
      · have hkn : (k : Int) < n := by omega
        have hkL : k < L.length := by rw [← HN.out]; exact hlt
        obtain ⟨ad, hAd⟩ : ∃ ad, A = some ad := by
          cases A with
          | none => have := HE1.out.nil rfl; omega
          | some ad => exact ⟨ad, rfl⟩
        obtain ⟨b, o, rfl, hcells⟩ := HEw.out.spot ad hAd (by omega)
        subst hAd
        obtain ⟨x, hx⟩ : ∃ x, x = L[k] := ⟨_, rfl⟩
        have hatE := hcells k hkL
        rw [← hx] at hatE
        have d0 : wr.cell? ⟨b, o + k * 13, none⟩ = some (.int .i64 x.it.id) := hatE 0 (by rw [Ent.cells_length]; decide)
        have d2 : wr.cell? ⟨b, o + k * 13 + 2, none⟩ = some (.int .i64 x.it.tick) := hatE 2 (by rw [Ent.cells_length]; decide)
        have HXX := Lib.hid hx
        have HBEF := Lib.hid (show bef x e = (decide (x.it.tick < e.it.tick) || ((x.it.tick == e.it.tick) && decide (x.it.id < e.it.id))) from rfl)
        obtain ⟨p1, h1⟩ : ∃ p, p = decide (x.it.tick < e.it.tick) := ⟨_, rfl⟩
        obtain ⟨p2, h2⟩ : ∃ p, p = (x.it.tick == e.it.tick) := ⟨_, rfl⟩
        obtain ⟨p3, h3⟩ : ∃ p, p = decide (x.it.id < e.it.id) := ⟨_, rfl⟩
        rw [← h1, ← h2, ← h3] at HBEF
        replace h1 := h1.symm
        replace h2 := h2.symm
        replace h3 := h3.symm
        clear hcells hatE hx
        cases p1 with
        | true =>
          go_wp2
          go_quiet (fail)
          go_wp2
          go_roundw
          case rel => exact ⟨k + 1, by omega, by go_num, put_more ALL.out hkL (by rw [← HXX.out, HBEF.out]; rfl), below_drewN2 BB.out _⟩
          case measure => simp [intOf]; omega
        | false =>
          cases p2 with
          | false =>
            go_wp2
            go_quiet (fail)
            go_wp2
            go_meet
            case rel => exact ⟨k, rfl, ⟨by omega, ALL.out, fun _ => by rw [← HXX.out, HBEF.out]; rfl⟩, below_drewN2 BB.out _⟩
          | true =>
            cases p3 with
            | false =>
              go_wp2
              go_quiet (fail)
              go_wp2
              go_meet
              case rel => exact ⟨k, rfl, ⟨by omega, ALL.out, fun _ => by rw [← HXX.out, HBEF.out]; rfl⟩, below_drewN2 BB.out _⟩
            | true =>
              go_wp2
              go_quiet (fail)
              go_wp2
              go_roundw
              case rel => exact ⟨k + 1, by omega, by go_num, put_more ALL.out hkL (by rw [← HXX.out, HBEF.out]; rfl), below_drewN2 BB.out _⟩
              case measure => simp [intOf]; omega
      · have hkn : ¬ (k : Int) < n := by omega
        have HLk := Lib.hid (show ¬ k < L.length by rw [← HN.out]; exact hlt)
        go_wp2
        go_quiet (fail)
        go_wp2
        go_meet
        case rel => exact ⟨k, rfl, ⟨by rw [← HN.out]; exact hk, ALL.out, fun h => absurd h HLk.out⟩, below_drewN2 BB.out _⟩
  case rest =>
    obtain ⟨k, rfl, hcutk, hbc⟩ := hcut
    have HCUT := Lib.hid hcutk
    have hkn0 : k ≤ n := by rw [HN.out]; exact hcutk.1
    have HK := Lib.hid hkn0
    have hk1 : (k : Int) ≤ c := by omega
    have hk2 : (k : Int) ≤ n := by omega
    have hk5 : (n : Int) ≤ c := by omega
    have HE := Lib.hid (HE1.out.below hbc)
    obtain ⟨A2, hA2⟩ : ∃ A2, (if c = k then A else A.map (·.add (k * 13))) = A2 := ⟨_, rfl⟩
    have hdr := HE.out.drop' (fun ad e => by obtain ⟨b, h1, _⟩ := HA.out ad e; exact ⟨b, h1⟩) k hkn0
    rw [hA2] at hdr
    have HD := Lib.hid hdr
    have HA2 := Lib.hid hA2
    obtain ⟨B, hB⟩ : ∃ B, B = wc.heap.size := ⟨_, rfl⟩
    have HB := Lib.hid hB
    have HBX := Lib.hid (AT1.out.below hbc)
    have HR := Lib.hid (HR1.out.below hbc)
    have HGC : Hid (wc.heap[g]? = some (.cells #[.slice A L.length c] 63 (0, 0))) := Lib.hid ((hbc.block g (Array.getElem?_eq_some_iff.1 HG1.out).1).trans HG1.out)
    have HC : Hid (∀ w', Below wc.heap.size wc w' → w'.cell? ⟨g, 0, none⟩ = some (.slice A n c)) := Lib.hid (fun w' hb => ((hbc.trans (hb.mono hbc.size)).cell (World.block_lt_of_cell? w1 _ hc1)).trans hc1)
    have HBC := Lib.hid hbc
    clear hA2 hdr hB hbc hcutk hc1
    refine (‹∀ (a : Act) (w : World), Code.wp _ _ _ a w → _›) _ _ ?_
    go_wp2_with fail
    refine Flow.wp_region_chain (m := 22) (by kernel_rfl) [1, 8, 10, 11, 12, 19] (G29 g be n c k A A2 e) (fun st f w => S29 B L e k st (f 67) (f 74) (f 76) (f 77) (f 78) (f 85) w) (by kernel_rfl) rfl (by kernel_rfl) (by decide) (G29_pure g be n c k A A2 e) ?indep ?start ?loc ?locC ?fin
    case indep =>
      intro st f f' w h hs
      have e67 : f 67 = f' 67 := h 1 _ 67 (by decide) rfl rfl
      have e74 : f 74 = f' 74 := h 8 _ 74 (by decide) rfl rfl
      have e76 : f 76 = f' 76 := h 10 _ 76 (by decide) rfl rfl
      have e77 : f 77 = f' 77 := h 11 _ 77 (by decide) rfl rfl
      have e78 : f 78 = f' 78 := h 12 _ 78 (by decide) rfl rfl
      have e85 : f 85 = f' 85 := h 19 _ 85 (by decide) rfl rfl
      show S29 B L e k st (f' 67) (f' 74) (f' 76) (f' 77) (f' 78) (f' 85) w
      rw [← e67, ← e74, ← e76, ← e77, ← e78, ← e85]
      exact hs
    case start => exact fun w hw hh => trivial
    case loc =>
      intro i o hi ho hno a w hw hk
      match i, hi, ho with
      | 0, _, ho =>
        have ho2 := Option.some.inj ho; clear ho; subst ho2
        have r0 : a.tmps.getD 0 undef = .pointer (some ⟨g, 0, none⟩) := (hk 0 (Flow.mem_looks (by kernel_rfl))).before (by kernel_rfl)
        rw [if_pos (Flow.wanted_free rfl _)]
        refine step_run (v := .pointer (some ⟨g, 0, none⟩)) (w' := w) ?_ ⟨rfl, rfl⟩
        simp [execOp, Act.eval, r0, go_sem]
      | 1, _, _ => exact absurd (by decide) hno
      | 2, _, ho =>
        have ho2 := Option.some.inj ho; clear ho; subst ho2
        have r0 : a.tmps.getD 0 undef = .pointer (some ⟨g, 0, none⟩) := (hk 0 (Flow.mem_looks (by kernel_rfl))).before (by kernel_rfl)
        rw [if_pos (Flow.wanted_free rfl _)]
        refine step_run (v := .pointer (some ⟨g, 0, none⟩)) (w' := w) ?_ ⟨rfl, rfl⟩
        simp [execOp, Act.eval, r0, go_sem]
      | 3, _, ho =>
        have ho2 := Option.some.inj ho; clear ho; subst ho2
        have r68 : a.tmps.getD 68 undef = .pointer (some ⟨g, 0, none⟩) := (hk 68 (Flow.mem_looks (by kernel_rfl))).by_ 2 (by kernel_rfl) (by decide)
        rw [if_pos (Flow.wanted_free rfl _)]
        refine step_run (v := .pointer (some ⟨g, 0, none⟩)) (w' := w) ?_ ⟨rfl, rfl⟩
        simp [execOp, Act.eval, r68, go_sem]
      | 4, _, ho =>
        have ho2 := Option.some.inj ho; clear ho; subst ho2
        have r69 : a.tmps.getD 69 undef = .pointer (some ⟨g, 0, none⟩) := (hk 69 (Flow.mem_looks (by kernel_rfl))).by_ 3 (by kernel_rfl) (by decide)
        rw [if_pos (Flow.wanted_free rfl _)]
        refine step_run (v := .pointer (some ⟨g, 0, none⟩)) (w' := w) ?_ ⟨rfl, rfl⟩
        simp [execOp, Act.eval, r69, go_sem]
      | 5, _, ho =>
        have ho2 := Option.some.inj ho; clear ho; subst ho2
        have r70 : a.tmps.getD 70 undef = .pointer (some ⟨g, 0, none⟩) := (hk 70 (Flow.mem_looks (by kernel_rfl))).by_ 4 (by kernel_rfl) (by decide)
        rw [if_pos (Flow.wanted_free rfl _)]
        have hc0 := HC.out w hw
        refine step_run (v := .slice A n c) (w' := w) ?_ ⟨rfl, rfl⟩
        simp [execOp, Act.eval, r70, hc0, go_sem]
      | 6, _, ho =>
        have ho2 := Option.some.inj ho; clear ho; subst ho2
        have r6 : a.tmps.getD 6 undef = .int .i64 k := (hk 6 (Flow.mem_looks (by kernel_rfl))).before (by kernel_rfl)
        rw [if_pos (Flow.wanted_free rfl _)]
        refine step_run (v := .int .i64 k) (w' := w) ?_ ⟨rfl, rfl⟩
        simp [execOp, Act.eval, r6, go_sem]
      | 7, _, ho =>
        have ho2 := Option.some.inj ho; clear ho; subst ho2
        have r71 : a.tmps.getD 71 undef = .slice A n c := (hk 71 (Flow.mem_looks (by kernel_rfl))).by_ 5 (by kernel_rfl) (by decide)
        have r72 : a.tmps.getD 72 undef = .int .i64 k := (hk 72 (Flow.mem_looks (by kernel_rfl))).by_ 6 (by kernel_rfl) (by decide)
        rw [if_pos (Flow.wanted_free rfl _)]
        refine step_run (v := .slice A k c) (w' := w) ?_ ⟨rfl, rfl⟩
        simp [execOp, Act.eval, r71, r72, hk1, go_sem]
      | 8, _, _ => exact absurd (by decide) hno
      | 9, _, ho =>
        have ho2 := Option.some.inj ho; clear ho; subst ho2
        have r3 : a.tmps.getD 3 undef = .pointer (some ⟨be, 0, none⟩) := (hk 3 (Flow.mem_looks (by kernel_rfl))).before (by kernel_rfl)
        rw [if_pos (Flow.wanted_free rfl _)]
        refine step_load_mid 29 (.tmp 3) rfl be 0 r3 e.cells _ (HBX.out.below hw).range Try.underlying29 rfl HEi.out ⟨rfl, rfl⟩
      | 10, _, _ => exact absurd (by decide) hno
      | 11, _, _ => exact absurd (by decide) hno
      | 12, _, _ => exact absurd (by decide) hno
      | 13, _, ho =>
        have ho2 := Option.some.inj ho; clear ho; subst ho2
        have r0 : a.tmps.getD 0 undef = .pointer (some ⟨g, 0, none⟩) := (hk 0 (Flow.mem_looks (by kernel_rfl))).before (by kernel_rfl)
        rw [if_pos (Flow.wanted_free rfl _)]
        refine step_run (v := .pointer (some ⟨g, 0, none⟩)) (w' := w) ?_ ⟨rfl, rfl⟩
        simp [execOp, Act.eval, r0, go_sem]
      | 14, _, ho =>
        have ho2 := Option.some.inj ho; clear ho; subst ho2
        have r79 : a.tmps.getD 79 undef = .pointer (some ⟨g, 0, none⟩) := (hk 79 (Flow.mem_looks (by kernel_rfl))).by_ 13 (by kernel_rfl) (by decide)
        rw [if_pos (Flow.wanted_free rfl _)]
        refine step_run (v := .pointer (some ⟨g, 0, none⟩)) (w' := w) ?_ ⟨rfl, rfl⟩
        simp [execOp, Act.eval, r79, go_sem]
      | 15, _, ho =>
        have ho2 := Option.some.inj ho; clear ho; subst ho2
        have r80 : a.tmps.getD 80 undef = .pointer (some ⟨g, 0, none⟩) := (hk 80 (Flow.mem_looks (by kernel_rfl))).by_ 14 (by kernel_rfl) (by decide)
        rw [if_pos (Flow.wanted_free rfl _)]
        refine step_run (v := .pointer (some ⟨g, 0, none⟩)) (w' := w) ?_ ⟨rfl, rfl⟩
        simp [execOp, Act.eval, r80, go_sem]
      | 16, _, ho =>
        have ho2 := Option.some.inj ho; clear ho; subst ho2
        have r81 : a.tmps.getD 81 undef = .pointer (some ⟨g, 0, none⟩) := (hk 81 (Flow.mem_looks (by kernel_rfl))).by_ 15 (by kernel_rfl) (by decide)
        rw [if_pos (Flow.wanted_free rfl _)]
        have hc0 := HC.out w hw
        refine step_run (v := .slice A n c) (w' := w) ?_ ⟨rfl, rfl⟩
        simp [execOp, Act.eval, r81, hc0, go_sem]
      | 17, _, ho =>
        have ho2 := Option.some.inj ho; clear ho; subst ho2
        have r6 : a.tmps.getD 6 undef = .int .i64 k := (hk 6 (Flow.mem_looks (by kernel_rfl))).before (by kernel_rfl)
        rw [if_pos (Flow.wanted_free rfl _)]
        refine step_run (v := .int .i64 k) (w' := w) ?_ ⟨rfl, rfl⟩
        simp [execOp, Act.eval, r6, go_sem]
      | 18, _, ho =>
        have ho2 := Option.some.inj ho; clear ho; subst ho2
        have r82 : a.tmps.getD 82 undef = .slice A n c := (hk 82 (Flow.mem_looks (by kernel_rfl))).by_ 16 (by kernel_rfl) (by decide)
        have r83 : a.tmps.getD 83 undef = .int .i64 k := (hk 83 (Flow.mem_looks (by kernel_rfl))).by_ 17 (by kernel_rfl) (by decide)
        rw [if_pos (Flow.wanted_free rfl _)]
        refine step_run (v := .slice A2 (n - k) (c - k)) (w' := w) ?_ ⟨rfl, rfl⟩
        rw [← HA2.out]
        simp [execOp, Act.eval, r82, r83, hk2, go_sem]
      | 19, _, _ => exact absurd (by decide) hno
      | 20, _, ho =>
        have ho2 := Option.some.inj ho; clear ho; subst ho2
        have r66 : a.tmps.getD 66 undef = .pointer (some ⟨g, 0, none⟩) := (hk 66 (Flow.mem_looks (by kernel_rfl))).by_ 0 (by kernel_rfl) (by decide)
        rw [if_pos (Flow.wanted_free rfl _)]
        refine step_run (v := .pointer (some ⟨g, 0, none⟩)) (w' := w) ?_ ⟨rfl, rfl⟩
        simp [execOp, Act.eval, r66, go_sem]
      | 21, _, ho =>
        have ho2 := Option.some.inj ho; clear ho; subst ho2
        have r86 : a.tmps.getD 86 undef = .pointer (some ⟨g, 0, none⟩) := (hk 86 (Flow.mem_looks (by kernel_rfl))).by_ 20 (by kernel_rfl) (by decide)
        rw [if_pos (Flow.wanted_free rfl _)]
        refine step_run (v := .pointer (some ⟨g, 0, none⟩)) (w' := w) ?_ ⟨rfl, rfl⟩
        simp [execOp, Act.eval, r86, go_sem]
      | _ + 22, hi, _ => exact absurd hi (by omega)
    case locC =>
      intro st i o hc ho a w hw hsz hk hS
      match st, hc, hS with
      | 0, hc, hS =>
        obtain rfl : i = 1 := (Option.some.inj hc).symm
        have ho2 := Option.some.inj ho; clear ho; subst ho2
        refine ⟨rfl, ?_⟩
        refine step_run (v := .slice (some ⟨w.heap.size, 0, none⟩) 0 0) (w' := w.alloc (.cells #[] 29)) (by simp [execOp, Act.eval, go_sem]) ⟨(Below.refl _ _).alloc hw.size _, trivial, ?_⟩
        have e67 := Flow.vals_put (a := a) (d := 67) (v := .slice (some ⟨w.heap.size, 0, none⟩) 0 0) (by rw [hsz]; show _ < 89; decide)
        show S29 B L e k 1 (Flow.vals (a.put (some 67) _) 67) _ _ _ _ _ _
        rw [e67]
        exact own_empty w 29 13 (by rw [HB.out]; exact hw.size)
      | 1, hc, hS =>
        obtain rfl : i = 8 := (Option.some.inj hc).symm
        have ho2 := Option.some.inj ho; clear ho; subst ho2
        refine ⟨rfl, ?_⟩
        have r73 : a.tmps.getD 73 undef = .slice A k c := (hk 73 (Flow.mem_looks (by kernel_rfl))).by_ 7 (by kernel_rfl) (by decide)
        refine step_append (.tmp 67) (.tmp 73) 22 29 zeroE 13 120 rfl Try.underlying22 infoE rfl (by decide) B _ 0 [] rfl hS A k c ((L.take k).flatMap Ent.cells) r73 (((HE.out.take k HK.out).below hw).src) (by unfold maxLen; omega) (by omega) (by rw [HB.out]; exact hw.size) ?_
        intro v' w' hown hg _
        refine ⟨below_grown (Below.refl _ _) hg hw.size (fun j hj => by rw [← HB.out]; exact (World.ownsRow.lt hS j hj).1), trivial, ?_⟩
        have e74 := Flow.vals_put (a := a) (d := 74) (v := v') (by rw [hsz]; show _ < 89; decide)
        show S29 B L e k 2 _ (Flow.vals (a.put (some 74) _) 74) _ _ _ _ _
        rw [e74]
        rw [Nat.zero_add, List.nil_append] at hown
        exact hown
      | 2, hc, hS =>
        obtain rfl : i = 10 := (Option.some.inj hc).symm
        have ho2 := Option.some.inj ho; clear ho; subst ho2
        refine ⟨rfl, ?_⟩
        have r75 : a.tmps.getD 75 undef = .agg e.cells.toArray := (hk 75 (Flow.mem_looks (by kernel_rfl))).by_ 9 (by kernel_rfl) (by decide)
        refine Flow.step_call (f := 37) (args := #[.agg e.cells.toArray]) (by simp [execOp, Act.eval, r75, go_sem]) ?_
        refine (own_any e w (HR.out.below hw) (by omega)).mono ?_
        rintro r w' ⟨A', c', rfl, hsr, hb, hfr⟩
        refine ⟨_, rfl, hb.mono hw.size, trivial, ?_⟩
        have hS2 := World.ownsRow.kept hS (row := none) ⟨hb.os, hb.tape, hb.output, hb.size, fun i hi _ => hb.block i hi⟩ (by cases (Flow.vals a 74).ownBlock <;> simp)
        have hap : ∀ j, (Flow.vals a 74).ownBlock = some j → ∀ ad, A' = some ad → ad.block ≠ j := fun j hj ad hd => by
          have h1 := (World.ownsRow.lt hS j hj).2
          have h2 := (hfr ad hd).1
          omega
        have e76 := Flow.vals_put (a := a) (d := 76) (v := .agg (e.re A' c').cells.toArray) (by rw [hsz]; show _ < 89; decide)
        have n74 := Flow.vals_put_ne (a := a) (d := 76) (t := 74) (v := .agg (e.re A' c').cells.toArray) (by decide)
        show S29 B L e k 3 _ (Flow.vals (a.put (some 76) _) 74) (Flow.vals (a.put (some 76) _) 76) _ _ _ _
        rw [n74, e76]
        exact ⟨A', c', hS2, rfl, hsr, hap, fun ad hd => (hfr ad hd).2⟩
      | 3, hc, hS =>
        obtain rfl : i = 11 := (Option.some.inj hc).symm
        have ho2 := Option.some.inj ho; clear ho; subst ho2
        refine ⟨rfl, ?_⟩
        obtain ⟨A', c', hS2, hv, hsr, hap, hfr⟩ := hS
        have hv' : a.tmps.getD 76 undef = .agg (e.re A' c').cells.toArray := hv
        refine step_build1 76 rfl (e.re A' c') hv' ⟨(Below.refl _ _).alloc hw.size _, trivial, ?_⟩
        have hb : Below w.heap.size w (w.alloc (.cells (e.re A' c').cells.toArray 29)) := (Below.refl _ _).alloc (Nat.le_refl _) _
        have hS3 := World.ownsRow.kept hS2 (row := none) ⟨hb.os, hb.tape, hb.output, hb.size, fun i hi _ => hb.block i hi⟩ (by cases (Flow.vals a 74).ownBlock <;> simp)
        have e77 := Flow.vals_put (a := a) (d := 77) (v := .slice (some ⟨w.heap.size, 0, none⟩) 1 1) (by rw [hsz]; show _ < 89; decide)
        have n74 := Flow.vals_put_ne (a := a) (d := 77) (t := 74) (v := .slice (some ⟨w.heap.size, 0, none⟩) 1 1) (by decide)
        show S29 B L e k 4 _ (Flow.vals (a.put (some 77) _) 74) _ (Flow.vals (a.put (some 77) _) 77) _ _ _
        rw [n74, e77]
        exact ⟨A', c', w.heap.size, hS3, rfl, at_alloc 29, hsr.below hb, hap, fun ad hd => by have := hfr ad hd; simp; omega⟩
      | 4, hc, hS =>
        obtain rfl : i = 12 := (Option.some.inj hc).symm
        have ho2 := Option.some.inj ho; clear ho; subst ho2
        refine ⟨rfl, ?_⟩
        obtain ⟨A', c', j, hS2, hv, hat, hsr, hap, hfr⟩ := hS
        have hv' : a.tmps.getD 77 undef = .slice (some ⟨j, 0, none⟩) 1 1 := hv
        refine step_append (.tmp 74) (.tmp 77) 22 29 zeroE 13 120 rfl Try.underlying22 infoE rfl (by decide) B _ k _ rfl hS2 (some ⟨j, 0, none⟩) 1 1 (e.re A' c').cells hv' (ent_src hat) (by unfold maxLen; omega) (by omega) (by rw [HB.out]; exact hw.size) ?_
        intro v' w' hown hg hob
        refine ⟨below_grown (Below.refl _ _) hg hw.size (fun j hj => by rw [← HB.out]; exact (World.ownsRow.lt hS2 j hj).1), trivial, ?_⟩
        exact ⟨A', c', by have e1 := Flow.vals_put (a := a) (d := 78) (v := v') (by rw [hsz]; show _ < 89; decide); show World.ownsRow _ _ _ _ (Flow.vals (a.put (some 78) _) 78) _ _; rw [e1]; exact hown, hsr.grown hg (fun ad hd hx => hap _ hx.symm ad hd rfl), fun j' hj ad hd => by
          have e1 := Flow.vals_put (a := a) (d := 78) (v := v') (by rw [hsz]; show _ < 89; decide)
          have hj' : v'.ownBlock = some j' := by rw [← e1]; exact hj
          rcases hob with h1 | h1
          · exact hap j' (by rw [← hj', h1]; rfl) ad hd
          · have h2 := hfr ad hd
            rw [h1] at hj'
            have := Option.some.inj hj'
            omega⟩
      | 5, hc, hS =>
        obtain rfl : i = 19 := (Option.some.inj hc).symm
        have ho2 := Option.some.inj ho; clear ho; subst ho2
        refine ⟨rfl, ?_⟩
        have r84 : a.tmps.getD 84 undef = .slice A2 (n - k) (c - k) := (hk 84 (Flow.mem_looks (by kernel_rfl))).by_ 18 (by kernel_rfl) (by decide)
        obtain ⟨A', c', hS2, hsr, hap⟩ := hS
        refine step_append (.tmp 78) (.tmp 84) 22 29 zeroE 13 120 rfl Try.underlying22 infoE rfl (by decide) B _ (k + 1) _ rfl hS2 A2 (n - k) (c - k) ((L.drop k).flatMap Ent.cells) r84 ((HD.out.below hw).src) (by unfold maxLen; omega) (by omega) (by rw [HB.out]; exact hw.size) ?_
        intro v' w' hown hg _
        refine ⟨below_grown (Below.refl _ _) hg hw.size (fun j hj => by rw [← HB.out]; exact (World.ownsRow.lt hS2 j hj).1), trivial, ?_⟩
        rw [HN.out] at hown
        exact ⟨A', c', by have e1 := Flow.vals_put (a := a) (d := 85) (v := v') (by rw [hsz]; show _ < 89; decide); show World.ownsRow _ _ _ _ (Flow.vals (a.put (some 85) _) 85) _ _; rw [e1]; exact hown, hsr.grown hg (fun ad hd hx => hap _ hx.symm ad hd rfl)⟩
      | _ + 6, hc, _ => exact absurd hc (by simp)
    case fin =>
      intro a4 w4 hw4 hd4 hs4 hg4 hold hS
      obtain ⟨v3, hv3⟩ : ∃ v, v = a4.tmps.getD 85 undef := ⟨_, rfl⟩
      obtain ⟨A', c', hS3, hsr⟩ : ∃ A c, w4.ownsRow B 29 13 (a4.tmps.getD 85 undef) (k + 1 + (L.length - k)) ((L.take k).flatMap Ent.cells ++ (e.re A c).cells ++ (L.drop k).flatMap Ent.cells) ∧ SRd w4 A e.sn c e.ss := hS
      rw [← hv3, List.append_assoc, ← List.flatMap_cons, ← List.flatMap_append] at hS3
      have ea := Flow.act_eq (a := a4) [.pointer (some ⟨g, 0, none⟩), a4.tmps.getD 1 undef, a4.tmps.getD 2 undef, a4.tmps.getD 3 undef, .bool false, .bool was, a4.tmps.getD 6 undef, a4.tmps.getD 7 undef, a4.tmps.getD 8 undef, a4.tmps.getD 9 undef, a4.tmps.getD 10 undef, a4.tmps.getD 11 undef, a4.tmps.getD 12 undef, a4.tmps.getD 13 undef, a4.tmps.getD 14 undef, a4.tmps.getD 15 undef, a4.tmps.getD 16 undef, a4.tmps.getD 17 undef, a4.tmps.getD 18 undef, a4.tmps.getD 19 undef, a4.tmps.getD 20 undef, a4.tmps.getD 21 undef, a4.tmps.getD 22 undef, a4.tmps.getD 23 undef, a4.tmps.getD 24 undef, a4.tmps.getD 25 undef, a4.tmps.getD 26 undef, a4.tmps.getD 27 undef, a4.tmps.getD 28 undef, a4.tmps.getD 29 undef, a4.tmps.getD 30 undef, a4.tmps.getD 31 undef, a4.tmps.getD 32 undef, a4.tmps.getD 33 undef, a4.tmps.getD 34 undef, a4.tmps.getD 35 undef, a4.tmps.getD 36 undef, a4.tmps.getD 37 undef, a4.tmps.getD 38 undef, a4.tmps.getD 39 undef, a4.tmps.getD 40 undef, a4.tmps.getD 41 undef, a4.tmps.getD 42 undef, a4.tmps.getD 43 undef, a4.tmps.getD 44 undef, a4.tmps.getD 45 undef, a4.tmps.getD 46 undef, a4.tmps.getD 47 undef, a4.tmps.getD 48 undef, a4.tmps.getD 49 undef, a4.tmps.getD 50 undef, a4.tmps.getD 51 undef, a4.tmps.getD 52 undef, a4.tmps.getD 53 undef, a4.tmps.getD 54 undef, a4.tmps.getD 55 undef, a4.tmps.getD 56 undef, a4.tmps.getD 57 undef, a4.tmps.getD 58 undef, a4.tmps.getD 59 undef, a4.tmps.getD 60 undef, a4.tmps.getD 61 undef, a4.tmps.getD 62 undef, a4.tmps.getD 63 undef, a4.tmps.getD 64 undef, a4.tmps.getD 65 undef, a4.tmps.getD 66 undef, a4.tmps.getD 67 undef, a4.tmps.getD 68 undef, a4.tmps.getD 69 undef, a4.tmps.getD 70 undef, a4.tmps.getD 71 undef, a4.tmps.getD 72 undef, a4.tmps.getD 73 undef, a4.tmps.getD 74 undef, a4.tmps.getD 75 undef, a4.tmps.getD 76 undef, a4.tmps.getD 77 undef, a4.tmps.getD 78 undef, a4.tmps.getD 79 undef, a4.tmps.getD 80 undef, a4.tmps.getD 81 undef, a4.tmps.getD 82 undef, a4.tmps.getD 83 undef, a4.tmps.getD 84 undef, v3, a4.tmps.getD 86 undef, .pointer (some ⟨g, 0, none⟩), a4.tmps.getD 88 undef] hs4 hd4 (by
        intro t ht
        match t, ht with
        | 0, _ => exact Flow.old_at hold 0 (by kernel_rfl)
        | 1, _ => exact rfl
        | 2, _ => exact rfl
        | 3, _ => exact rfl
        | 4, _ => exact Flow.old_at hold 4 (by kernel_rfl)
        | 5, _ => exact Flow.old_at hold 5 (by kernel_rfl)
        | 6, _ => exact rfl
        | 7, _ => exact rfl
        | 8, _ => exact rfl
        | 9, _ => exact rfl
        | 10, _ => exact rfl
        | 11, _ => exact rfl
        | 12, _ => exact rfl
        | 13, _ => exact rfl
        | 14, _ => exact rfl
        | 15, _ => exact rfl
        | 16, _ => exact rfl
        | 17, _ => exact rfl
        | 18, _ => exact rfl
        | 19, _ => exact rfl
        | 20, _ => exact rfl
        | 21, _ => exact rfl
        | 22, _ => exact rfl
        | 23, _ => exact rfl
        | 24, _ => exact rfl
        | 25, _ => exact rfl
        | 26, _ => exact rfl
        | 27, _ => exact rfl
        | 28, _ => exact rfl
        | 29, _ => exact rfl
        | 30, _ => exact rfl
        | 31, _ => exact rfl
        | 32, _ => exact rfl
        | 33, _ => exact rfl
        | 34, _ => exact rfl
        | 35, _ => exact rfl
        | 36, _ => exact rfl
        | 37, _ => exact rfl
        | 38, _ => exact rfl
        | 39, _ => exact rfl
        | 40, _ => exact rfl
        | 41, _ => exact rfl
        | 42, _ => exact rfl
        | 43, _ => exact rfl
        | 44, _ => exact rfl
        | 45, _ => exact rfl
        | 46, _ => exact rfl
        | 47, _ => exact rfl
        | 48, _ => exact rfl
        | 49, _ => exact rfl
        | 50, _ => exact rfl
        | 51, _ => exact rfl
        | 52, _ => exact rfl
        | 53, _ => exact rfl
        | 54, _ => exact rfl
        | 55, _ => exact rfl
        | 56, _ => exact rfl
        | 57, _ => exact rfl
        | 58, _ => exact rfl
        | 59, _ => exact rfl
        | 60, _ => exact rfl
        | 61, _ => exact rfl
        | 62, _ => exact rfl
        | 63, _ => exact rfl
        | 64, _ => exact rfl
        | 65, _ => exact rfl
        | 66, _ => exact rfl
        | 67, _ => exact rfl
        | 68, _ => exact rfl
        | 69, _ => exact rfl
        | 70, _ => exact rfl
        | 71, _ => exact rfl
        | 72, _ => exact rfl
        | 73, _ => exact rfl
        | 74, _ => exact rfl
        | 75, _ => exact rfl
        | 76, _ => exact rfl
        | 77, _ => exact rfl
        | 78, _ => exact rfl
        | 79, _ => exact rfl
        | 80, _ => exact rfl
        | 81, _ => exact rfl
        | 82, _ => exact rfl
        | 83, _ => exact rfl
        | 84, _ => exact rfl
        | 85, _ => exact hv3.symm
        | 86, _ => exact rfl
        | 87, _ => exact hg4 21 _ 87 (by decide) rfl rfl
        | 88, _ => exact rfl
        | t + 89, ht => exact absurd ht (by simp))
      rw [ea]
      generalize a4.tmps.getD 1 undef = z1
      generalize a4.tmps.getD 2 undef = z2
      generalize a4.tmps.getD 3 undef = z3
      generalize a4.tmps.getD 6 undef = z6
      generalize a4.tmps.getD 7 undef = z7
      generalize a4.tmps.getD 8 undef = z8
      generalize a4.tmps.getD 9 undef = z9
      generalize a4.tmps.getD 10 undef = z10
      generalize a4.tmps.getD 11 undef = z11
      generalize a4.tmps.getD 12 undef = z12
      generalize a4.tmps.getD 13 undef = z13
      generalize a4.tmps.getD 14 undef = z14
      generalize a4.tmps.getD 15 undef = z15
      generalize a4.tmps.getD 16 undef = z16
      generalize a4.tmps.getD 17 undef = z17
      generalize a4.tmps.getD 18 undef = z18
      generalize a4.tmps.getD 19 undef = z19
      generalize a4.tmps.getD 20 undef = z20
      generalize a4.tmps.getD 21 undef = z21
      generalize a4.tmps.getD 22 undef = z22
      generalize a4.tmps.getD 23 undef = z23
      generalize a4.tmps.getD 24 undef = z24
      generalize a4.tmps.getD 25 undef = z25
      generalize a4.tmps.getD 26 undef = z26
      generalize a4.tmps.getD 27 undef = z27
      generalize a4.tmps.getD 28 undef = z28
      generalize a4.tmps.getD 29 undef = z29
      generalize a4.tmps.getD 30 undef = z30
      generalize a4.tmps.getD 31 undef = z31
      generalize a4.tmps.getD 32 undef = z32
      generalize a4.tmps.getD 33 undef = z33
      generalize a4.tmps.getD 34 undef = z34
      generalize a4.tmps.getD 35 undef = z35
      generalize a4.tmps.getD 36 undef = z36
      generalize a4.tmps.getD 37 undef = z37
      generalize a4.tmps.getD 38 undef = z38
      generalize a4.tmps.getD 39 undef = z39
      generalize a4.tmps.getD 40 undef = z40
      generalize a4.tmps.getD 41 undef = z41
      generalize a4.tmps.getD 42 undef = z42
      generalize a4.tmps.getD 43 undef = z43
      generalize a4.tmps.getD 44 undef = z44
      generalize a4.tmps.getD 45 undef = z45
      generalize a4.tmps.getD 46 undef = z46
      generalize a4.tmps.getD 47 undef = z47
      generalize a4.tmps.getD 48 undef = z48
      generalize a4.tmps.getD 49 undef = z49
      generalize a4.tmps.getD 50 undef = z50
      generalize a4.tmps.getD 51 undef = z51
      generalize a4.tmps.getD 52 undef = z52
      generalize a4.tmps.getD 53 undef = z53
      generalize a4.tmps.getD 54 undef = z54
      generalize a4.tmps.getD 55 undef = z55
      generalize a4.tmps.getD 56 undef = z56
      generalize a4.tmps.getD 57 undef = z57
      generalize a4.tmps.getD 58 undef = z58
      generalize a4.tmps.getD 59 undef = z59
      generalize a4.tmps.getD 60 undef = z60
      generalize a4.tmps.getD 61 undef = z61
      generalize a4.tmps.getD 62 undef = z62
      generalize a4.tmps.getD 63 undef = z63
      generalize a4.tmps.getD 64 undef = z64
      generalize a4.tmps.getD 65 undef = z65
      generalize a4.tmps.getD 66 undef = z66
      generalize a4.tmps.getD 67 undef = z67
      generalize a4.tmps.getD 68 undef = z68
      generalize a4.tmps.getD 69 undef = z69
      generalize a4.tmps.getD 70 undef = z70
      generalize a4.tmps.getD 71 undef = z71
      generalize a4.tmps.getD 72 undef = z72
      generalize a4.tmps.getD 73 undef = z73
      generalize a4.tmps.getD 74 undef = z74
      generalize a4.tmps.getD 75 undef = z75
      generalize a4.tmps.getD 76 undef = z76
      generalize a4.tmps.getD 77 undef = z77
      generalize a4.tmps.getD 78 undef = z78
      generalize a4.tmps.getD 79 undef = z79
      generalize a4.tmps.getD 80 undef = z80
      generalize a4.tmps.getD 81 undef = z81
      generalize a4.tmps.getD 82 undef = z82
      generalize a4.tmps.getD 83 undef = z83
      generalize a4.tmps.getD 84 undef = z84
      generalize a4.tmps.getD 86 undef = z86
      generalize a4.tmps.getD 88 undef = z88
      clear ea
      obtain ⟨hi5, hgr5⟩ := idx_set (L' := L.take k ++ e.re A' c' :: L.drop k) hw4 HGC.out HB.out hS3 (by rw [List.length_append, List.length_take, List.length_cons, List.length_drop, ← HN.out]; omega) (fun x hx => by
        rcases List.mem_append.1 hx with h1 | h1
        · exact (HE.out.rows x (List.mem_of_mem_take h1)).below hw4
        · rcases List.mem_cons.1 h1 with rfl | h2
          · exact hsr
          · exact (HE.out.rows x (List.mem_of_mem_drop h2)).below hw4)
      have hg4' : w4.heap[g]? = some (.cells #[.slice A L.length c] 63 (0, 0)) := (hw4.block g (Array.getElem?_eq_some_iff.1 HGC.out).1).trans HGC.out
      have hc4 : w4.cell? ⟨g, 0, none⟩ = some (.slice A L.length c) := by simp [World.cell?, hg4']
      have hf4 : w4.frozen? ⟨g, 0, none⟩ = false := frozen_of_row _ g 0 _ 63 hg4'
      obtain ⟨A3, c3, hv4⟩ := slice_of_own hS3
      have H5 := Lib.hid hi5
      have H6 := Lib.hid (grow_trans (grow_below B0.out HGR.out) (grow_trans (grow_of_below HBC.out) hgr5))
      have HLEN := Lib.hid (show (L.take k ++ e.re A' c' :: L.drop k).length ≤ L0.length + 1 by rw [List.length_append, List.length_take, List.length_cons, List.length_drop]; have := HSUB.out.length_le; omega)
      subst hv4
      clear hd4 hs4 hg4 hold hw4 hS3 hv3 hg4' hi5 hgr5 hsr
      go_wp2
      go_ret
      exact ⟨⟨_, rfl⟩, _, H5.out, HLEN.out, fun hgd hs9 => good_put hgd HSUB.out HNO.out HCUT.out hs9, H6.out⟩
end Go.Proofs.Ytbfnjfmnblafaaa.Qry
