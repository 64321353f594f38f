/- Entries in order. -/
import Derived.Test.YtbfnjfmnblafaaaQ15
import Derived.Test.YtbfnjfmnblafaaaQ10
namespace Go.Proofs.Ytbfnjfmnblafaaa.Qry
open Go.RowKit

theorem good_core {L L2 : List Ent} (h : L2.map Ent.core = L.map Ent.core) (hg : Good L) : Good L2 := by
  obtain ⟨g1, g2, g3⟩ := hg
  refine ⟨?_, ?_, ?_⟩
  · have h1 : (L.map Ent.core).Pairwise (fun x y => beh x.it.tick x.it.id y = true) := List.pairwise_map.2 g1
    rw [← h] at h1
    exact List.pairwise_map.1 h1
  · have e : ∀ l : List Ent, l.map (·.it.id) = (l.map Ent.core).map (·.it.id) := fun l => by rw [List.map_map]; rfl
    rw [e, h, ← e]
    exact g2
  · intro e he
    have h1 : e.core ∈ L2.map Ent.core := List.mem_map_of_mem he
    rw [h] at h1
    obtain ⟨x, hx, hxe⟩ := List.mem_map.1 h1
    have h2 : x.core.sn = e.core.sn := congrArg Ent.sn hxe
    replace h2 : x.sn = e.sn := h2
    rw [← h2]
    exact g3 x hx
theorem good_nil : Good [] := ⟨List.Pairwise.nil, List.nodup_nil, fun _ h => by cases h⟩
theorem below_of_grown {w W1 wr : World} {g : Nat} (h1 : Below w.heap.size w W1) (h2 : W1.grownBy wr (some g)) (hg : w.heap.size ≤ g) : Below w.heap.size w wr :=
  h1.grown h2 h1.size (fun k hk => by have := Option.some.inj hk; omega)
def OrderedPost (w : World) (nl : Nat) (e : Ending) (w' : World) : Prop := (∃ A c L', e = .returned (.slice A L'.length c) ∧ Ents w' A L'.length c L' ∧ Good L' ∧ L'.length ≤ nl) ∧ Below w.heap.size w w'
set_option maxRecDepth 100000 in
set_option maxHeartbeats 8000000 in
theorem ordered_any (A : Option Addr) (nl cl : Nat) (L : List Ent) (w : World) (hE : Ents w A nl cl L) (hF : Few nl L) :
    Calls Try.prog 18 #[.slice A nl cl] w (OrderedPost w nl) := by
  have HE := Lib.hid hE
  have HL := Lib.hid hE.len
  have HF := Lib.hid hF
  have hnl := hF.1
  have hle := hE.le
  have hsm := hE.small
  clear hE hF
  go_enter Try.func18, Try.ntmps18
  go_wp2_with fail
  refine (new_any w).mono ?_
  rintro r W1 ⟨rfl, rfl⟩
  obtain ⟨W1, hW1⟩ : ∃ W1, W1 = w.alloc (.cells #[.slice none 0 0] 63) := ⟨_, rfl⟩
  rw [← hW1]
  have hi := new_idx w
  rw [← hW1] at hi
  obtain ⟨g, hg⟩ : ∃ g, g = w.heap.size := ⟨_, rfl⟩
  rw [← hg] at hi ⊢
  have HI := Lib.hid hi
  have HB1 := Lib.hid (show Below w.heap.size w W1 by rw [hW1]; exact (Below.refl _ _).alloc (Nat.le_refl _) _)
  have HG := Lib.hid (show w.heap.size ≤ g by omega)
  clear hi hg hW1
  go_wp2
  go_loopw [4] (fun i wr => ∃ k : Nat, ∃ L2, k ≤ nl ∧ i = .int .i64 k ∧ Idx wr g L2 ∧ L2.length ≤ k ∧ Good L2 ∧ W1.grownBy wr (some g)) (fun i _ => nl - (intOf i).toNat)
  case atStart => exact ⟨0, [], Nat.zero_le _, rfl, HI.out, Nat.le_refl _, good_nil, World.grownBy.refl _ _⟩
  case round =>
    obtain ⟨k, L2, hk, rfl, hI, hlen, hgd, hgr⟩ := hrel
    have II := Lib.hid hI
    have GD := Lib.hid hgd
    have GR := Lib.hid hgr
    have BB := Lib.hid (below_of_grown HB1.out hgr HG.out)
    have HEw := Lib.hid (HE.out.below BB.out)
    clear hI hgd hgr
    by_cases hlt : k < nl
    · have hkn : (k : Int) < nl := by omega
      have hkL : k < L.length := by rw [HL.out]; exact hlt
      obtain ⟨ad, hAd⟩ : ∃ ad, A = some ad := by
        cases A with
        | none => have := HE.out.nil rfl; omega
        | some ad => exact ⟨ad, rfl⟩
      obtain ⟨b, o, rfl, hcells⟩ := HEw.out.spot ad hAd (by omega)
      subst hAd
      obtain ⟨e, he⟩ : ∃ x, x = L[k] := ⟨_, rfl⟩
      have hatE := hcells k hkL
      rw [← he] at hatE
      have HAT := Lib.hid hatE
      have HRW := Lib.hid (HEw.out.rows e (by rw [he]; exact List.getElem_mem hkL))
      have hsn9 := HF.out.2 e (by rw [he]; exact List.getElem_mem hkL)
      have HEi := Lib.hid (show (Try.prog.info? 29).map (·.size) = some e.cells.length by rw [Ent.cells_length]; kernel_rfl)
      clear hcells hatE he
      go_wp2_with (refine wpList_load_mid rfl 29 (.tmp 15) rfl b (o + k * 13) rfl e.cells _ HAT.out.range Try.underlying29 rfl HEi.out ?_)
      refine (put_any g L2 e wr II.out (by omega) HRW.out hsn9).mono ?_
      rintro r w2 ⟨⟨q, rfl⟩, L3, hI3, hl3, hg3, hgr3⟩
      have I3 := Lib.hid hI3
      have G3 := Lib.hid (hg3 GD.out hsn9)
      have R3 := Lib.hid (grow_trans GR.out hgr3)
      clear hI3 hg3 hgr3
      go_wp2
      go_roundw
      case rel => exact ⟨k + 1, L3, by omega, by go_num, I3.out, by omega, G3.out, R3.out⟩
      case measure => simp [intOf]; omega
    · have hkn : ¬ (k : Int) < nl := by omega
      go_wp2_with fail
      refine (all_any2 g L2 wr II.out (by omega) GD.out.2.2).mono ?_
      rintro r w2 ⟨⟨A', c', L3, rfl, hE3, hco⟩, hb2⟩
      have E3 := Lib.hid hE3
      have CO := Lib.hid hco
      have B2 := Lib.hid (below_trans BB.out hb2 BB.out.size)
      have hl3 : L3.length = L2.length := by have := congrArg List.length hco; simpa using this
      have LL := Lib.hid (show L3.length ≤ nl by omega)
      clear hE3 hco hb2 hl3
      go_wp2
      go_ret
      exact ⟨⟨_, _, _, rfl, E3.out, good_core CO.out GD.out, LL.out⟩, B2.out⟩
end Go.Proofs.Ytbfnjfmnblafaaa.Qry
