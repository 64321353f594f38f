/- Entries in order, all of them in memory made by then. -/
import Derived.Test.YtbfnjfmnblafaaaQ16
namespace Go.Proofs.Ytbfnjfmnblafaaa.Qry
open Go.RowKit

/-- Entries in memory from block s on, their lists too. -/
def EntsF (w : World) (s : Nat) (A : Option Addr) (n c : Nat) (L : List Ent) : Prop := Ents w A n c L ∧ (∀ ad, A = some ad → s ≤ ad.block) ∧ ∀ e ∈ L, ∀ ad, e.sA = some ad → s ≤ ad.block
theorem EntsF.lower {w : World} {s s' : Nat} {A : Option Addr} {n c : Nat} {L : List Ent} (h : EntsF w s A n c L) (hs : s' ≤ s) : EntsF w s' A n c L :=
  ⟨h.1, fun ad e => Nat.le_trans hs (h.2.1 ad e), fun e he ad hd => Nat.le_trans hs (h.2.2 e he ad hd)⟩
theorem EntsF.set {w : World} {s : Nat} {A : Option Addr} {n c : Nat} {L : List Ent} {g i : Nat} {v : Value} (h : EntsF w s A n c L) (hg : g < s) : EntsF (w.setCell ⟨g, i, none⟩ v) s A n c L := by
  have hk : ∀ b o, s ≤ b → (w.setCell ⟨g, i, none⟩ v).cell? ⟨b, o, none⟩ = w.cell? ⟨b, o, none⟩ := fun b o hb =>
    World.cell?_of_block (heap_setCell_other _ _ _ _ (show b ≠ g by omega))
  refine ⟨⟨h.1.len, h.1.le, h.1.small, h.1.nil, fun ad e h0 => ?_, fun e he => ?_⟩, h.2⟩
  · obtain ⟨b, o, e2, hc⟩ := h.1.spot ad e h0
    have hb := h.2.1 ad e
    rw [e2] at hb
    exact ⟨b, o, e2, fun j hj k hk2 => (hk b _ hb).trans (hc j hj k hk2)⟩
  · have hr := h.1.rows e he
    refine ⟨hr.len, hr.le, hr.small, hr.nil, fun ad hd h0 => ?_⟩
    obtain ⟨b, o, e2, hc⟩ := hr.spot ad hd h0
    have hb := h.2.2 e he ad hd
    rw [e2] at hb
    exact ⟨b, o, e2, fun j hj => (hk b _ hb).trans (hc j hj)⟩
theorem EntsF.below {w w1 : World} {s : Nat} {A : Option Addr} {n c : Nat} {L : List Ent} (h : EntsF w s A n c L) (hb : Below w.heap.size w w1) : EntsF w1 s A n c L := ⟨h.1.below hb, h.2⟩
def AllI2 (w : World) (s1 : Nat) (v : Value) (L2 : List Ent) : Prop := OwnE w s1 v L2.length L2 ∧ ∀ e ∈ L2, ∀ ad, e.sA = some ad → s1 ≤ ad.block ∧ ad.block < w.heap.size ∧ ∀ j, v.ownBlock = some j → ad.block ≠ j
theorem all_keep2 {wr w2 : World} {s1 : Nat} {v : Value} {L2 : List Ent} {o : Obj} (h : AllI2 wr s1 v L2) (hb : Below wr.heap.size wr w2) : (w2.alloc o).ownsRow s1 29 13 v L2.length (L2.flatMap Ent.cells) ∧ ∀ e ∈ L2, SRd (w2.alloc o) e.sA e.sn e.sc e.ss := by
  have hb' : Below wr.heap.size wr (w2.alloc o) := hb.alloc hb.size _
  exact ⟨World.ownsRow.kept h.1.1 (row := none) ⟨hb'.os, hb'.tape, hb'.output, hb'.size, fun i hi _ => hb'.block i hi⟩ (by cases v.ownBlock <;> simp), fun e he => (h.1.2 e he).below hb'⟩
theorem all_next2 {wr w2 w3 : World} {s1 : Nat} {v v' : Value} {L2 : List Ent} {e : Ent} {A : Option Addr} {c : Nat} {o : Obj} (h : AllI2 wr s1 v L2) (hb : Below wr.heap.size wr w2) (hs : SRd w2 A e.sn c e.ss) (hw1 : s1 ≤ wr.heap.size)
    (hf : ∀ ad, A = some ad → wr.heap.size ≤ ad.block ∧ ad.block < w2.heap.size) (hown : w3.ownsRow s1 29 13 v' (L2.length + 1) (L2.flatMap Ent.cells ++ (e.re A c).cells)) (hg : (w2.alloc o).grownBy w3 v.ownBlock)
    (hob : v'.ownBlock = v.ownBlock ∨ v'.ownBlock = some (w2.alloc o).heap.size) : AllI2 w3 s1 v' (L2 ++ [e.re A c]) := by
  have hsz : w2.heap.size + 1 ≤ w3.heap.size := by have := hg.size; simpa using this
  have hva : ∀ ad, A = some ad → ∀ j, v.ownBlock = some j → ad.block ≠ j := fun ad hd j hj => by
    have h1 := (World.ownsRow.lt h.1.1 j hj).2
    have h2 := (hf ad hd).1
    omega
  have hnew : ∀ ad : Addr, ad.block < w2.heap.size → (∀ j, v.ownBlock = some j → ad.block ≠ j) → ∀ j, v'.ownBlock = some j → ad.block ≠ j := fun ad hlt hne j hj => by
    rcases hob with h1 | h1
    · exact hne j (by rw [← h1]; exact hj)
    · rw [h1] at hj
      have := Option.some.inj hj
      rw [World.size_alloc] at this
      omega
  refine ⟨⟨?_, fun x hx => ?_⟩, fun x hx ad hd => ?_⟩
  · rw [List.length_append, List.length_singleton, List.flatMap_append]
    simpa using hown
  · rcases List.mem_append.1 hx with h1 | h1
    · refine ((all_keep2 h hb).2 x h1).grown hg (fun ad hd hx => ?_)
      exact (h.2 x h1 ad hd).2.2 _ hx.symm rfl
    · obtain rfl := List.mem_singleton.1 h1
      refine (hs.below ((Below.refl w2.heap.size w2).alloc (Nat.le_refl _) o)).grown hg (fun ad hd hx => ?_)
      exact hva ad hd _ hx.symm rfl
  · rcases List.mem_append.1 hx with h1 | h1
    · have h2 := h.2 x h1 ad hd
      have h3 := hb.size
      exact ⟨h2.1, by omega, hnew ad (by omega) h2.2.2⟩
    · obtain rfl := List.mem_singleton.1 h1
      have h2 := hf ad hd
      exact ⟨by omega, by omega, hnew ad h2.2 (hva ad hd)⟩
theorem all_below2 {w wr w2 w3 : World} {v : Value} {L2 : List Ent} {o : Obj} (h : Below w.heap.size w wr) (hb : Below wr.heap.size wr w2) (hg : (w2.alloc o).grownBy w3 v.ownBlock) (hI : AllI2 wr w.heap.size v L2) : Below w.heap.size w w3 :=
  below_grown ((below_trans h hb h.size).alloc (Nat.le_trans h.size hb.size) _) hg (by have := h.size; have := hb.size; simp; omega) (fun k hk => (World.ownsRow.lt hI.1.1 k hk).1)
def AllPost2 (w : World) (L : List Ent) (e : Ending) (w' : World) : Prop := (∃ A c L2, e = .returned (.slice A L2.length c) ∧ EntsF w' w.heap.size A L2.length c L2 ∧ L2.map Ent.core = L.map Ent.core) ∧ Below w.heap.size w w'
set_option maxRecDepth 100000 in
set_option maxHeartbeats 8000000 in
theorem all_any3 (g : Nat) (L : List Ent) (w : World) (h : Idx w g L) (hL : L.length ≤ 100000) (h9 : ∀ e ∈ L, e.sn < 9000) :
    Calls Try.prog 30 #[.pointer (some ⟨g, 0, none⟩)] w (AllPost2 w L) := by
  obtain ⟨A, c, hg1, hc1, hE, hA, _⟩ := h.open_
  have HE1 := Lib.hid hE
  have hle := hE.le
  have hsm := hE.small
  have H9 := Lib.hid h9
  obtain ⟨n, hn⟩ : ∃ n, n = L.length := ⟨_, rfl⟩
  rw [← hn] at hc1 HE1 hle hL
  have HN := Lib.hid hn
  clear hg1 hE hA hn h h9
  go_enter Try.func30, Try.ntmps30
  go_wp2
  go_loopw [3, 4] (fun v i wr => ∃ k : Nat, ∃ L2, k ≤ n ∧ i = .int .i64 k ∧ AllI2 wr w.heap.size v L2 ∧ L2.map Ent.core = (L.take k).map Ent.core ∧ Below w.heap.size w wr) (fun _ i _ => n - (intOf i).toNat)
  case atStart => exact ⟨0, [], Nat.zero_le _, rfl, ⟨⟨World.ownsRow_nil _ _ _ _, fun _ h => by cases h⟩, fun _ h => by cases h⟩, rfl, Below.refl _ _⟩
  case round =>
    obtain ⟨k, L2, hk, rfl, hI, hco, hb⟩ := hrel
    have CO := Lib.hid hco
    have BB := Lib.hid hb
    have II := Lib.hid hI
    have cg : wr.cell? ⟨g, 0, none⟩ = some (.slice A n c) := (hb.cell (World.block_lt_of_cell? w _ hc1)).trans hc1
    have HEw := Lib.hid (HE1.out.below hb)
    have hl2 : L2.length = k := by
      have := congrArg List.length hco
      rw [List.length_map, List.length_map, List.length_take, ← HN.out] at this
      omega
    clear hb hc1 hco hI
    by_cases hlt : k < n
    · have hkn : (k : Int) < n := by omega
      have hkL : k < L.length := by rw [← HN.out]; exact hlt
      obtain ⟨ad, hAd⟩ : ∃ ad, A = some ad := by
        cases A with
        | none => have := HE1.out.nil rfl; omega
        | some ad => exact ⟨ad, rfl⟩
      obtain ⟨b, o, rfl, hcells⟩ := HEw.out.spot ad hAd (by omega)
      subst hAd
      obtain ⟨e, he⟩ : ∃ x, x = L[k] := ⟨_, rfl⟩
      have hatE := hcells k hkL
      rw [← he] at hatE
      have HAT := Lib.hid hatE
      have HRW := Lib.hid (HEw.out.rows e (by rw [he]; exact List.getElem_mem hkL))
      have hsn9 := H9.out e (by rw [he]; exact List.getElem_mem hkL)
      have HEi := Lib.hid (show (Try.prog.info? 29).map (·.size) = some e.cells.length by rw [Ent.cells_length]; kernel_rfl)
      have HEE := Lib.hid he
      have HL2 := Lib.hid hl2
      clear hcells hatE he hl2
      go_wp2_with (refine wpList_load_mid rfl 29 (.tmp 20) rfl b (o + k * 13) rfl e.cells _ HAT.out.range Try.underlying29 rfl HEi.out ?_)
      refine (own_any e wr HRW.out (by omega)).mono ?_
      rintro r w2 ⟨A', c', rfl, hsr, hb2, hfr⟩
      have HSR := Lib.hid hsr
      have B2 := Lib.hid hb2
      have HFR := Lib.hid hfr
      clear hsr hb2 hfr
      go_wp2_with (first | (refine wpList_build1 rfl 22 rfl (e.re A' c') rfl ?_) | (at_builtin; refine append_at rfl (.tmp 14) (.tmp 23) 22 29 zeroE 13 120 rfl Try.underlying22 infoE rfl (by decide) w.heap.size _ L2.length _ rfl (all_keep2 II.out B2.out).1 ⟨w2.heap.size, 0, none⟩ 1 1 (e.re A' c').cells rfl (ent_src (at_alloc 29)) (by unfold maxLen; have := HL2.out; omega) (by have := HL2.out; omega) (by have := BB.out.size; have := B2.out.size; simp; omega) ?_; intro v' w3 hown hgr hob; have HOW := Lib.hid hown; have HGR := Lib.hid hgr; have HOB := Lib.hid hob; clear hown hgr hob))
      go_roundw
      case rel => exact ⟨k + 1, L2 ++ [e.re A' c'], by omega, by go_num, all_next2 II.out B2.out HSR.out BB.out.size HFR.out HOW.out HGR.out HOB.out, by rw [List.take_succ_eq_append_getElem hkL, List.map_append, List.map_append, CO.out, ← HEE.out]; rfl, all_below2 BB.out B2.out HGR.out II.out⟩
      case measure => simp [intOf]; omega
    · have hkn : ¬ (k : Int) < n := by omega
      have htk : L.take k = L := List.take_of_length_le (by rw [← HN.out]; omega)
      rw [htk] at CO
      obtain ⟨A3, c3, hv, hE3, hA3⟩ := II.out.1.ents
      subst hv
      have HE3 : Hid (EntsF wr w.heap.size A3 L2.length c3 L2) := Lib.hid ⟨hE3, fun ad e => (by obtain ⟨g, rfl, hg⟩ := hA3 ad e; exact hg), fun e he ad hd => (II.out.2 e he ad hd).1⟩
      clear hE3 hA3 htk hl2
      go_wp2
      go_ret
      exact ⟨⟨_, _, _, rfl, HE3.out, CO.out⟩, BB.out⟩
def OrderedPost2 (w : World) (nl : Nat) (e : Ending) (w' : World) : Prop := (∃ A c L', e = .returned (.slice A L'.length c) ∧ EntsF w' w.heap.size A L'.length c L' ∧ Good L' ∧ L'.length ≤ nl) ∧ Below w.heap.size w w'
set_option maxRecDepth 100000 in
set_option maxHeartbeats 8000000 in
theorem ordered_any2 (A : Option Addr) (nl cl : Nat) (L : List Ent) (w : World) (hE : Ents w A nl cl L) (hF : Few nl L) :
    Calls Try.prog 18 #[.slice A nl cl] w (OrderedPost2 w nl) := by
  have HE := Lib.hid hE
  have HL := Lib.hid hE.len
  have HF := Lib.hid hF
  have hnl := hF.1
  have hle := hE.le
  have hsm := hE.small
  clear hE hF
  go_enter Try.func18, Try.ntmps18
  go_wp2_with fail
  refine (new_any w).mono ?_
  rintro r W1 ⟨rfl, rfl⟩
  obtain ⟨W1, hW1⟩ : ∃ W1, W1 = w.alloc (.cells #[.slice none 0 0] 63) := ⟨_, rfl⟩
  rw [← hW1]
  have hi := new_idx w
  rw [← hW1] at hi
  obtain ⟨g, hg⟩ : ∃ g, g = w.heap.size := ⟨_, rfl⟩
  rw [← hg] at hi ⊢
  have HI := Lib.hid hi
  have HB1 := Lib.hid (show Below w.heap.size w W1 by rw [hW1]; exact (Below.refl _ _).alloc (Nat.le_refl _) _)
  have HG := Lib.hid (show w.heap.size ≤ g by omega)
  clear hi hg hW1
  go_wp2
  go_loopw [4] (fun i wr => ∃ k : Nat, ∃ L2, k ≤ nl ∧ i = .int .i64 k ∧ Idx wr g L2 ∧ L2.length ≤ k ∧ Good L2 ∧ W1.grownBy wr (some g)) (fun i _ => nl - (intOf i).toNat)
  case atStart => exact ⟨0, [], Nat.zero_le _, rfl, HI.out, Nat.le_refl _, good_nil, World.grownBy.refl _ _⟩
  case round =>
    obtain ⟨k, L2, hk, rfl, hI, hlen, hgd, hgr⟩ := hrel
    have II := Lib.hid hI
    have GD := Lib.hid hgd
    have GR := Lib.hid hgr
    have BB := Lib.hid (below_of_grown HB1.out hgr HG.out)
    have HEw := Lib.hid (HE.out.below BB.out)
    clear hI hgd hgr
    by_cases hlt : k < nl
    · have hkn : (k : Int) < nl := by omega
      have hkL : k < L.length := by rw [HL.out]; exact hlt
      obtain ⟨ad, hAd⟩ : ∃ ad, A = some ad := by
        cases A with
        | none => have := HE.out.nil rfl; omega
        | some ad => exact ⟨ad, rfl⟩
      obtain ⟨b, o, rfl, hcells⟩ := HEw.out.spot ad hAd (by omega)
      subst hAd
      obtain ⟨e, he⟩ : ∃ x, x = L[k] := ⟨_, rfl⟩
      have hatE := hcells k hkL
      rw [← he] at hatE
      have HAT := Lib.hid hatE
      have HRW := Lib.hid (HEw.out.rows e (by rw [he]; exact List.getElem_mem hkL))
      have hsn9 := HF.out.2 e (by rw [he]; exact List.getElem_mem hkL)
      have HEi := Lib.hid (show (Try.prog.info? 29).map (·.size) = some e.cells.length by rw [Ent.cells_length]; kernel_rfl)
      clear hcells hatE he
      go_wp2_with (refine wpList_load_mid rfl 29 (.tmp 15) rfl b (o + k * 13) rfl e.cells _ HAT.out.range Try.underlying29 rfl HEi.out ?_)
      refine (put_any g L2 e wr II.out (by omega) HRW.out hsn9).mono ?_
      rintro r w2 ⟨⟨q, rfl⟩, L3, hI3, hl3, hg3, hgr3⟩
      have I3 := Lib.hid hI3
      have G3 := Lib.hid (hg3 GD.out hsn9)
      have R3 := Lib.hid (grow_trans GR.out hgr3)
      clear hI3 hg3 hgr3
      go_wp2
      go_roundw
      case rel => exact ⟨k + 1, L3, by omega, by go_num, I3.out, by omega, G3.out, R3.out⟩
      case measure => simp [intOf]; omega
    · have hkn : ¬ (k : Int) < nl := by omega
      go_wp2_with fail
      refine (all_any3 g L2 wr II.out (by omega) GD.out.2.2).mono ?_
      rintro r w2 ⟨⟨A', c', L3, rfl, hE3, hco⟩, hb2⟩
      have E3 := Lib.hid (hE3.lower BB.out.size)
      have CO := Lib.hid hco
      have B2 := Lib.hid (below_trans BB.out hb2 BB.out.size)
      have hl3 : L3.length = L2.length := by have := congrArg List.length hco; simpa using this
      have LL := Lib.hid (show L3.length ≤ nl by omega)
      clear hE3 hco hb2 hl3
      go_wp2
      go_ret
      exact ⟨⟨_, _, _, rfl, E3.out, good_core CO.out GD.out, LL.out⟩, B2.out⟩
end Go.Proofs.Ytbfnjfmnblafaaa.Qry
