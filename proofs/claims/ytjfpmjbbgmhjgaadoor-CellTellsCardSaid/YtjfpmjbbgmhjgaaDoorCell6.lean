/- cell.Put -/
import Derived.Test.YtjfpmjbbgmhjgaaDoorCell5
import Derived.Laws.CopyOwn
import Derived.StillTailTactics
namespace Go.Proofs.YtjfpmjbbgmhjgaaDoor.Crc
open Go.RowKit CrcMath

/-- A sector's bytes ahead of its sum. -/
def body (l : List Int) : List Int := (l.length : Int) :: (l ++ List.replicate (59 - l.length) 0)
theorem body_length {l : List Int} (h : l.length ≤ 59) : (body l).length = 60 := by simp [body]; omega
theorem body_bytes {l : List Int} (h : l.length ≤ 59) (hb : Bytes l) : Bytes (body l) := by
  intro x hx
  rcases List.mem_cons.1 hx with rfl | hx
  · omega
  · rcases List.mem_append.1 hx with h1 | h1
    · exact hb x h1
    · rw [(List.mem_replicate.1 h1).2]; omega
/-- A sector's bytes. -/
def sector (q p : Int) (l : List Int) : List Int := body l ++ le (more 0#32 (hd q p ++ body l))
/-- What Put tells. -/
def put (q p : Int) (l : List Int) : List Int := if right q p = true ∧ l.length ≤ 59 then sector q p l else []
theorem sector_length {q p : Int} {l : List Int} (h : l.length ≤ 59) : (sector q p l).length = 64 := by
  unfold sector; rw [List.length_append, body_length h, le_length]
theorem rd_of_heap {w : World} {g t : Nat} {k : IntKind} {L : List Int} (h : w.heap[g]? = some (.cells (L.map (Value.int k)).toArray t (0, 0))) (n c : Nat) (hn : n ≤ L.length) (hc : n ≤ c) (h63 : c ≤ 9223372036854775807) : Rd w k (some ⟨g, 0, none⟩) n c (L.take n) :=
  ⟨by rw [List.length_take]; omega, hc, h63, (fun e => by cases e), fun ad e _ => by
    cases e
    refine ⟨g, 0, rfl, fun j hj => ?_⟩
    have hjL : j < L.length := by omega
    rw [Nat.zero_add]
    simp only [World.cell?, h, List.getElem?_toArray, List.getElem?_map, List.getElem?_eq_getElem hjL, List.getD_eq_getElem?_getD, List.getElem?_take, if_pos hj]
    rfl⟩
def PutPost (w : World) (q p : Int) (l : List Int) (e : Ending) (w' : World) : Prop :=
  (∃ v, e = .returned v ∧ Own w' .u8 37 w.heap.size v (put q p l).length (put q p l)) ∧ Below w.heap.size w w'
theorem splice1 {l : List Int} (h : l.length ≤ 59) : splice (Value.int .u8 (l.length : Int) :: List.replicate 63 (Value.int .u8 0)) 1 (l.map (Value.int .u8)) = (body l ++ [0, 0, 0, 0]).map (Value.int .u8) := by
  have e : List.replicate (63 - l.length) (Value.int .u8 0) = List.replicate (59 - l.length) (Value.int .u8 0) ++ List.replicate 4 (Value.int .u8 0) := by
    rw [List.replicate_append_replicate]; congr 1; omega
  have e4 : ([0, 0, 0, 0] : List Int) = List.replicate 4 0 := rfl
  rw [e4]
  unfold splice body
  rw [List.length_map, Nat.add_comm 1 l.length, List.drop_succ_cons, List.drop_replicate, e]
  simp only [List.take_succ_cons, List.take_zero, List.cons_append, List.nil_append, List.map_cons, List.map_append, List.map_replicate, List.append_assoc]
theorem splice2 {l m : List Int} (h : l.length = 60) (hm : m.length = 4) : splice ((l ++ [0, 0, 0, 0]).map (Value.int .u8)) 60 (m.map (Value.int .u8)) = (l ++ m).map (Value.int .u8) := by
  unfold splice
  rw [List.length_map, hm, ← List.map_take, ← List.map_drop, List.take_left' h, List.drop_of_length_le (by simp [h])]
  simp
theorem set0 (n : Int) : ((List.replicate 64 (Value.int .u8 0)).toArray.setIfInBounds 0 (Value.int .u8 n)) = (Value.int .u8 n :: List.replicate 63 (Value.int .u8 0)).toArray := by
  simp [List.replicate]

set_option maxHeartbeats 4000000 in
set_option maxRecDepth 100000 in
theorem put_any (q p : Int) (A : Option Addr) (n c : Nat) (l : List Int) (w : World) (hr : Rd w .u8 A n c l) (hb : Bytes l) :
    Calls Tryd.prog 11 #[.int .i64 q, .int .i64 p, .slice A n c] w (PutPost w q p l) := by
  have hcap := hr.small
  have hle := hr.le
  have R := Lib.hid hr
  have Y := Lib.hid hb
  have L := Lib.hid hr.len
  clear hr hb
  obtain ⟨rb, hrb⟩ : ∃ b, b = right q p := ⟨_, rfl⟩
  have hra := right_any q p
  rw [← hrb] at hra
  have RA := Lib.hid hra
  have RB := Lib.hid hrb
  clear hra hrb
  cases rb with
  | false =>
    go_enter Tryd.func11, Tryd.ntmps11
    go_wp2_with fail
    refine (RA.out _).mono ?_
    rintro e w1 ⟨rfl, rfl⟩
    go_wp2
    go_ret
    refine ⟨⟨_, rfl, ?_⟩, Below.refl _ _⟩
    have e : put q p l = [] := by unfold put; rw [← RB.out]; simp
    rw [e]
    exact World.ownsRow_nil _ _ _ _
  | true =>
    by_cases h59 : (59 : Int) < n
    · have hdd : decide ((59 : Int) < n) = true := decide_eq_true h59
      go_enter Tryd.func11, Tryd.ntmps11
      go_wp2_with fail
      refine (RA.out _).mono ?_
      rintro e w1 ⟨rfl, rfl⟩
      go_wp2
      go_ret
      refine ⟨⟨_, rfl, ?_⟩, Below.refl _ _⟩
      have e : put q p l = [] := by unfold put; rw [if_neg]; rintro ⟨_, h⟩; rw [L.out] at h; omega
      rw [e]
      exact World.ownsRow_nil _ _ _ _
    · have hdd : decide ((59 : Int) < n) = false := decide_eq_false h59
      have hn : n ≤ 59 := by omega
      have hn8 : IntKind.u8.wrap (n : Int) = (n : Int) := by rw [show IntKind.u8.wrap (n : Int) = (n : Int) % 256 from rfl]; omega
      obtain ⟨cs, hcs⟩ : ∃ cs, cs = l.map (Value.int .u8) := ⟨_, rfl⟩
      have hcl : cs.length = n := by rw [hcs, List.length_map, L.out]
      have CS := Lib.hid hcs
      have CL := Lib.hid hcl
      have hc1 : ∀ u ∈ cs, u.oneCell' = true := by rw [hcs]; exact ints_one _ _
      have C1 := Lib.hid hc1
      clear hcs hcl hc1
      go_enter Tryd.func11, Tryd.ntmps11
      go_wp2_with fail
      refine (RA.out _).mono ?_
      rintro e w1 ⟨rfl, rfl⟩
      have HP : Hid (0 < cs.length → ∃ ad, A = some ad ∧ ∀ w1, Below w.heap.size w w1 → ∀ j v, cs[j]? = some v → w1.cell? (ad.add j) = some v) := Lib.hid (by
        intro h0
        cases A with
        | none => have := R.out.len0; have := CL.out; omega
        | some ad => exact ⟨ad, rfl, fun w1 hb => by rw [CS.out]; exact (R.out.below hb).cells⟩)
      have HNP : Hid (cs.length = Nat.min n 63) := Lib.hid (by rw [CL.out]; exact (Nat.min_eq_left (by omega)).symm)
      have HNF : Hid (1 + cs.length ≤ 64) := Lib.hid (by rw [CL.out]; omega)
      go_wp2_with (refine wpList_copy_splice rfl (.tmp 22) (.tmp 23) 22 22 rfl 5 Tryd.underlying22 (by kernel_rfl) _ _ 63 63 n c rfl rfl w.heap.size 1 (Value.int .u8 (n : Int) :: List.replicate 63 (Value.int .u8 0)) 37 (heap_alloc_new _ _) cs HNP.out (fun h0 => by obtain ⟨ad, e1, h2⟩ := HP.out h0; exact ⟨rfl, ad, e1, h2 _ ((Below.refl _ _).alloc (Nat.le_refl _) _)⟩) HNF.out C1.out w.heap.size w ((Below.refl _ _).alloc (Nat.le_refl _) _) (Nat.le_refl _) ?_; intro w2 hg2 hb2; have X2 := Lib.hid hb2; clear hb2)
      have hl59 : l.length ≤ 59 := by rw [L.out]; omega
      have hw2 : w2.heap[w.heap.size]? = some (.cells ((body l ++ [0, 0, 0, 0]).map (Value.int .u8)).toArray 37 (0, 0)) := by
        have := hg2
        unfold Hid at this
        rw [CS.out, ← L.out, splice1 hl59] at this
        exact this
      have hrd : Rd w2 .u8 (some ⟨w.heap.size, 0, none⟩) 60 64 (body l) := by
        have := rd_of_heap hw2 60 64 (by rw [List.length_append, body_length hl59]; decide) (by decide) (by decide)
        rw [List.take_left' (body_length hl59)] at this
        exact this
      have hsum := sum_any w.heap.size q p (body l) w2 hrd (body_bytes hl59 Y.out)
      obtain ⟨D, hD⟩ : ∃ D, D = ((le (more 0#32 (hd q p ++ body l))).map (Value.int .u8)) := ⟨_, rfl⟩
      rw [← hD] at hsum
      obtain ⟨E, hE⟩ : ∃ E, E = D.toArray := ⟨_, rfl⟩
      rw [← hE] at hsum
      have hD4 : D.length = 4 := by rw [hD]; simp [le_length]
      have hD1 : ∀ u ∈ D, u.oneCell' = true := by rw [hD]; exact ints_one _ _
      have hDi : (Tryd.prog.info? 38).map (·.size) = some E.size := by rw [hE, List.size_toArray, hD4]; kernel_rfl
      have hDa : E.all (·.oneCell') = true := by rw [hE, List.all_toArray, List.all_eq_true]; exact hD1
      have HS := Lib.hid hsum
      have HD := Lib.hid hD
      have HD4 := Lib.hid hD4
      have HD1 := Lib.hid hD1
      have HDi := Lib.hid hDi
      have HDa := Lib.hid hDa
      have HE := Lib.hid hE
      have HE4 := Lib.hid (show E.size = 4 by rw [hE, List.size_toArray, hD4])
      have G2 := Lib.hid hw2
      have H59 := Lib.hid hl59
      clear hsum hE hD hD4 hD1 hDi hDa hw2 hrd hl59 hg2
      refine HS.out.mono ?_
      rintro e w3 ⟨rfl, hb3⟩
      have X3 := Lib.hid (below_trans X2.out hb3 X2.out.size)
      have hw3 : w3.heap[w.heap.size]? = some (.cells ((body l ++ [0, 0, 0, 0]).map (Value.int .u8)).toArray 37 (0, 0)) := by rw [hb3.block _ (heap_lt G2.out)]; exact G2.out
      have G3 := Lib.hid hw3
      clear hb3 hw3
      obtain ⟨C2, hC2⟩ : ∃ C2, C2 = (body l ++ [0, 0, 0, 0]).map (Value.int .u8) := ⟨_, rfl⟩
      rw [← hC2] at G2 G3
      have HC2 := Lib.hid hC2
      have HC64 := Lib.hid (show 60 + D.length ≤ C2.length by rw [HD4.out, hC2, List.length_map, List.length_append, body_length H59.out]; decide)
      clear hC2
      go_wp2_with (refine wpList_store_row rfl 38 (.tmp 8) (.tmp 27) rfl w3.heap.size E rfl rfl 38 _ (heap_alloc_new _ _) HDi.out (by rw [HE4.out]; rfl) HDa.out ?_; rw [World.setRow_alloc_new]; obtain ⟨W, hW⟩ : ∃ W, W = w3.alloc (.cells E 38) := ⟨_, rfl⟩; rw [← hW]; have HW := Lib.hid hW; clear hW)
      have GW : Hid (W.heap[w.heap.size]? = some (.cells C2.toArray 37 (0, 0))) := Lib.hid (by rw [HW.out, heap_alloc_old _ _ (heap_lt G3.out)]; exact G3.out)
      have XW : Hid (Below w.heap.size w W) := Lib.hid (by rw [HW.out]; exact X3.out.alloc X3.out.size _)
      obtain ⟨b8, hb8⟩ : ∃ b, b = w3.heap.size := ⟨_, rfl⟩
      have RW : Hid (∀ j v, D[j]? = some v → W.cell? (Addr.add ⟨b8, 0, none⟩ j) = some v) := Lib.hid (by
        intro j v hv
        rw [HW.out, add_off, hb8, Nat.zero_add, World.cell?_alloc_at _ _ _ _ rfl, HE.out, List.getElem?_toArray]
        exact hv)
      rw [← hb8]
      clear hb8
      go_still_tail 2, (by kernel_rfl)
      change wpList _ _ _ _ _ (W.drewN 1)
      refine wpList_copy_splice rfl (.tmp 28) (.tmp 29) 22 22 rfl 5 Tryd.underlying22 (by kernel_rfl) (some ⟨w.heap.size, 60, none⟩) (some ⟨b8, 0, none⟩) 4 4 4 4 rfl rfl w.heap.size 60 C2 37 GW.out D HD4.out (fun _ => ⟨rfl, _, rfl, RW.out⟩) HC64.out HD1.out w.heap.size w (below_drewN2 XW.out 1) (Nat.le_refl _) ?_
      intro w5 hg5 hb5
      have X5 := Lib.hid hb5
      clear hb5
      go_wp2
      go_ret
      refine ⟨⟨_, rfl, ?_⟩, X5.out⟩
      have e : put q p l = sector q p l := by unfold put; rw [← RB.out, if_pos ⟨rfl, H59.out⟩]
      have hg6 : w5.heap[w.heap.size]? = some (.cells ((sector q p l).map (Value.int .u8)).toArray 37 (0, 0)) := by
        have := hg5
        unfold Hid at this
        rw [HC2.out, HD.out, splice2 (body_length H59.out) (le_length _)] at this
        exact this
      rw [e, sector_length H59.out]
      refine ⟨by rw [List.length_map, sector_length H59.out], .inr ⟨w.heap.size, 64, _, rfl, Nat.le_refl _, hg6, Nat.le_refl _, by decide, by simp [sector_length H59.out], ?_⟩⟩
      rw [List.take_of_length_le (by simp [sector_length H59.out])]
end Go.Proofs.YtjfpmjbbgmhjgaaDoor.Crc
