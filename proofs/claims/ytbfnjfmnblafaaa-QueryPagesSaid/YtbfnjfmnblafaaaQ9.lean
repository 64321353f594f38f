/- The document's Next. -/
import Derived.Test.YtbfnjfmnblafaaaQ8
import Derived.Test.YtbfnjfmnblafaaaQ6a
import Derived.Laws.ResultCell
namespace Go.Proofs.Ytbfnjfmnblafaaa.Qry
open Go.RowKit

theorem results_ct {P : Program} {fn : Func} {p q : Tmp} {ty : TypeId} (h : fn.results = #[.cell p ty, .tmp q]) (tmps : Array Value) (w : World) (g : Nat) (t : TypeId) (cs : Array Value) (v : Value) (fr : Nat × Nat) (d : TypeDesc)
    (hp : tmps.getD p undef = .pointer (some ⟨g, 0, none⟩)) (hg : w.heap[g]? = some (.cells cs t fr))
    (hu : P.underlying ty = some d) (hd : (match d with | .struct _ | .array _ _ => true | _ => false) = true) (hi : (P.info? ty).map (·.size) = some cs.size) (hq : tmps.getD q undef = v) :
    (results fn tmps).run P w = .ok (.tuple #[.agg cs, v]) w := by
  rw [results_cell_tmp h, hp, hq]
  simp [asAddr, run_loadVar_row w g t ty cs fr d hg hu hd hi, Result.andThen]
/-- What has been reached behind k entries. -/
def mid (a : Ask) (L : List Ent) (k : Nat) : Ask := updE a ((fl a (L.take k)).take a.limit.toNat)
theorem mid_step (a : Ask) (L : List Ent) (k : Nat) (hk : k < L.length) : mid a L (k + 1) = if (fits L[k] a && decide (((fl a (L.take k)).length : Int) < a.limit)) = true then at1 (mid a L k) L[k] else mid a L k := by
  unfold mid
  rw [fl_take_step a L k hk]
  by_cases hf : fits L[k] a = true
  · rw [if_pos hf, hf, Bool.true_and]
    by_cases hl : ((fl a (L.take k)).length : Int) < a.limit
    · rw [if_pos (decide_eq_true hl), List.take_of_length_le (by rw [List.length_append, List.length_singleton]; omega), List.take_of_length_le (l := fl a (L.take k)) (by omega)]
      unfold updE
      rw [List.foldl_append]
      rfl
    · rw [if_neg (by rw [decide_eq_false hl]; decide), List.take_append_of_le_length (by omega)]
  · rw [if_neg hf, List.append_nil]
    have : fits L[k] a = false := by simpa using hf
    rw [this, Bool.false_and]
    simp
theorem fl_len_step (a : Ask) (L : List Ent) (k : Nat) (hk : k < L.length) : (fl a (L.take (k + 1))).length = (fl a (L.take k)).length + if fits L[k] a = true then 1 else 0 := by
  rw [fl_take_step a L k hk, List.length_append]
  split <;> rfl
theorem heap3_1 (w : World) (o o1 o2 : Obj) : (((w.alloc o).alloc o1).alloc o2).heap[w.heap.size + 1]? = some o1 := by
  rw [heap_alloc_old _ _ (by simp)]
  have := heap_alloc_new (w.alloc o) o1
  simpa using this
theorem heap3_2 (w : World) (o o1 o2 : Obj) : (((w.alloc o).alloc o1).alloc o2).heap[w.heap.size + 2]? = some o2 := by
  have := heap_alloc_new ((w.alloc o).alloc o1) o2
  simpa using this
theorem set3 (w : World) (o o1 : Obj) (c Y : Array Value) (t : TypeId) : (((w.alloc o).alloc o1).alloc (.cells c t)).setRow (w.heap.size + 2) Y = ((w.alloc o).alloc o1).alloc (.cells Y t) := by
  have := World.setRow_alloc_new ((w.alloc o).alloc o1) c Y t
  simpa using this
theorem at1_cells {b : Ask} {e : Ent} {U : Array Value} (hU : U = b.cells.toArray) : (U.setIfInBounds 4 (.int .i64 e.it.tick)).setIfInBounds 5 (.int .i64 e.it.id) = (at1 b e).cells.toArray := by rw [hU]; exact upd_cells b _ _
/-- The cell of what has been reached, written twice. -/
theorem two_set {W : World} {Bb : Nat} {U : Array Value} {x y : Value} (h : W.heap[Bb]? = some (.cells U 31 (0, 0))) : ((W.setCell ⟨Bb, 4, none⟩ x).setCell ⟨Bb, 5, none⟩ y).heap[Bb]? = some (.cells ((U.setIfInBounds 4 x).setIfInBounds 5 y) 31 (0, 0)) :=
  heap_setCell_same _ Bb 5 _ 31 _ (heap_setCell_same W Bb 4 U 31 _ h)
/-- A block that holds what is asked for: its cells, and that they may be written. -/
theorem blk_facts {W : World} {Bb : Nat} {b : Ask} (h : W.heap[Bb]? = some (.cells b.cells.toArray 31 (0, 0))) :
    W.cell? ⟨Bb, 4, none⟩ = some (.int .i64 b.tick) ∧ W.cell? ⟨Bb, 5, none⟩ = some (.int .i64 b.id) ∧ (∀ j, W.frozen? ⟨Bb, j, none⟩ = false) := by
  refine ⟨?_, ?_, fun j => frozen_of_row W Bb j _ _ h⟩ <;> simp [World.cell?, h, Ask.cells]
def G12 (b o nl cl k : Nat) (e : Ent) (ak : Ask) (q : Bool) : Nat → Value → World → Prop
  | 0 => fun v _ => v = .slice (some ⟨b, o, none⟩) nl cl
  | 1 => fun v _ => v = .int .i64 k
  | 2 => fun v _ => v = .pointer (some ⟨b, o + k * 13, none⟩)
  | 3 => fun v _ => v = .agg e.cells.toArray
  | 4 => fun v _ => v = .agg ak.cells.toArray
  | 5 => fun v _ => v = .bool q
  | _ => fun _ _ => True
theorem G12_stable (b o nl cl k : Nat) (e : Ent) (ak : Ask) (q : Bool) : ∀ i v w w', G12 b o nl cl k e ak q i v w → Below w.heap.size w w' → G12 b o nl cl k e ak q i v w' := by
  intro i v w w' h hb
  match i, h with
  | 0, h => exact h
  | 1, h => exact h
  | 2, h => exact h
  | 3, h => exact h
  | 4, h => exact h
  | 5, h => exact h
  | _ + 6, _ => exact trivial
set_option maxRecDepth 100000 in
set_option maxHeartbeats 4000000 in
theorem refnext_any (A : Option Addr) (nl cl : Nat) (L : List Ent) (ak : Ask) (w : World) (hE : Ents w A nl cl L) (hnl : nl ≤ 100000) :
    Calls Try.prog 12 #[.slice A nl cl, .agg ak.cells.toArray] w (NextPost w (next ak L)) := by
  obtain ⟨X, hX⟩ : ∃ X, X = ak.cells.toArray := ⟨_, rfl⟩
  rw [← hX]
  have HX := Lib.hid hX
  have HE := Lib.hid hE
  have HL := Lib.hid hE.len
  have hle := hE.le
  have hsm := hE.small
  have HAi := Lib.hid (show (Try.prog.info? 31).map (·.size) = some ak.cells.length by rw [Ask.cells_length]; kernel_rfl)
  have HXi := Lib.hid (show (Try.prog.info? 31).map (·.size) = some X.size by rw [hX]; kernel_rfl)
  have HX7 := Lib.hid (show X.size = 7 by rw [hX]; rfl)
  have HX1 := Lib.hid (show X.all (·.oneCell') = true by rw [hX, List.all_toArray, List.all_eq_true]; exact ask_one ak)
  clear hX hE
  go_enter Try.func12, Try.ntmps12
  go_upto_region 3 with (first | (refine wpList_load_row rfl 31 (.tmp 3) rfl w.heap.size rfl 31 X (0, 0) _ (heap_alloc2_old w _ _) Try.underlying31 rfl HXi.out ?_) | (refine wpList_store_row rfl 31 (.tmp 7) (.tmp 9) rfl (w.heap.size + 2) X rfl rfl 31 _ (heap3_2 w _ _ _) HXi.out (by rw [HX7.out]; rfl) HX1.out ?_; rw [set3]))
  obtain ⟨W1, hW1⟩ : ∃ W1, W1 = ((w.alloc (.cells X 31)).alloc (.cells #[.string ⟨#[]⟩, .int .i64 0, .int .i64 0, .int .i64 0, .int .i64 0, .int .i64 0, .int .i64 0] 31)).alloc (.cells X 31) := ⟨_, rfl⟩
  rw [← hW1]
  have hs1 : W1.heap.size = w.heap.size + 3 := by rw [hW1]; simp
  have hB1 : Below w.heap.size w W1 := by rw [hW1]; exact (((Below.refl _ _).alloc (Nat.le_refl _) _).alloc (by simp) _).alloc (by simp; omega) _
  have hb0 : W1.heap[w.heap.size]? = some (.cells X 31 (0, 0)) := by rw [hW1]; exact heap3 w _ _ _
  have hb1 : W1.heap[w.heap.size + 1]? = some (.cells Ask.zero.cells.toArray 31 (0, 0)) := by rw [hW1]; exact heap3_1 w _ _ _
  have hb2 : W1.heap[w.heap.size + 2]? = some (.cells X 31 (0, 0)) := by rw [hW1]; exact heap3_2 w _ _ _
  obtain ⟨Ba, hBa⟩ : ∃ b, b = w.heap.size := ⟨_, rfl⟩
  obtain ⟨Br, hBr⟩ : ∃ b, b = w.heap.size + 1 := ⟨_, rfl⟩
  obtain ⟨Bb, hBb⟩ : ∃ b, b = w.heap.size + 1 + 1 := ⟨_, rfl⟩
  rw [show w.heap.size + 2 = Bb from hBb.symm] at hb2
  rw [← hBr] at hb1
  rw [← hBa] at hb0
  rw [← hBb, ← hBr, ← hBa]
  have HAsk1 := Lib.hid (show At W1 Ba 0 ak.cells from fun j hj => by rw [HX.out] at hb0; simp [World.cell?, hb0, hj])
  have HS : Hid (Ba = w.heap.size ∧ Br = Ba + 1 ∧ Bb = Ba + 2 ∧ W1.heap.size = Ba + 3) := Lib.hid (by omega)
  have B1 := Lib.hid hB1
  have HBr := Lib.hid hb1
  have HBb := Lib.hid hb2
  clear hs1 hB1 hb0 hb1 hb2 hBa hBr hBb hW1
  go_wp2
  go_loopw [6, 8] (fun c i wr => ∃ k m : Nat, k ≤ nl ∧ i = .int .i64 k ∧ c = .int .i64 m ∧ m = (fl ak (L.take k)).length ∧ wr.heap[Bb]? = some (.cells (mid ak L k).cells.toArray 31 (0, 0)) ∧ Below Bb W1 wr) (fun _ i _ => nl - (intOf i).toNat)
  case atStart => exact ⟨0, 0, Nat.zero_le _, rfl, rfl, rfl, by rw [HBb.out, HX.out]; simp [mid, fl, updE], Below.refl _ _⟩
  case round =>
    obtain ⟨k, m, hk, rfl, rfl, hm, hblk, hbel⟩ := hrel
    have BK := Lib.hid hblk
    have BL := Lib.hid hbel
    have HM := Lib.hid hm
    have hmk : m ≤ k := by
      rw [hm]
      refine Nat.le_trans (List.length_filter_le _ _) ?_
      rw [List.length_take]; omega
    by_cases hlt : k < nl
    · have hkn : (k : Int) < nl := by omega
      have hkL : k < L.length := by rw [HL.out]; exact hlt
      have hEw : Ents wr A nl cl L := HE.out.below (B1.out.trans (hbel.mono (by have := HS.out; omega)))
      obtain ⟨ad, hAd⟩ : ∃ ad, A = some ad := by
        cases A with
        | none => have := HE.out.nil rfl; omega
        | some ad => exact ⟨ad, rfl⟩
      obtain ⟨b, o, rfl, hcells⟩ := hEw.spot ad hAd (by omega)
      subst hAd
      obtain ⟨e, he⟩ : ∃ e, e = L[k] := ⟨_, rfl⟩
      have hatE := hcells k hkL
      rw [← he] at hatE
      have HEnt := Lib.hid hatE
      have HRow := Lib.hid (hEw.rows e (by rw [he]; exact List.getElem_mem hkL))
      have HAsk : Hid (At wr Ba 0 ak.cells) := Lib.hid (fun j hj => (World.cell?_of_block (hbel.block Ba (by have := HS.out; omega))).trans (HAsk1.out j hj))
      have HCi := Lib.hid (show (Try.prog.info? 29).map (·.size) = some e.cells.length by rw [Ent.cells_length]; kernel_rfl)
      have hst := mid_step ak L k hkL
      have hsl := fl_len_step ak L k hkL
      rw [← he, ← hm] at hst hsl
      obtain ⟨q, hq⟩ : ∃ q, q = fits e ak := ⟨_, rfl⟩
      rw [← hq] at hst hsl
      have HQ := Lib.hid hq.symm
      obtain ⟨z, hz⟩ : ∃ z, z = decide ((m : Int) < ak.limit) := ⟨_, rfl⟩
      rw [← hz] at hst
      have hz' := hz.symm
      have HST := Lib.hid hst
      have HSL := Lib.hid hsl
      have hc5 : Bb < wr.heap.size := by have := hbel.size; have := HS.out; omega
      clear hblk hbel hm hEw hcells hatE he hst hsl hq hz
      go_wp2_with fail
      refine Flow.wp_region_flow (by kernel_rfl) (G12 b o nl cl k e ak q) (by kernel_rfl) (G12_stable b o nl cl k e ak q) ?loc ?fin
      case loc =>
        intro i o ho a w hw hk
        match i, ho with
        | 0, ho =>
          have ho2 := Option.some.inj ho; clear ho; subst ho2
          have r0 : a.tmps.getD 0 undef = .slice (some ⟨b, o, none⟩) nl cl := (hk 0 (Flow.mem_looks (by kernel_rfl))).before (by kernel_rfl)
          rw [if_pos (Flow.wanted_free rfl _)]
          refine Flow.step_value (v := .slice (some ⟨b, o, none⟩) nl cl) ?_ ⟨Below.refl _ _, rfl⟩
          simp [execOp, Act.eval, r0, go_sem]
        | 1, ho =>
          have ho2 := Option.some.inj ho; clear ho; subst ho2
          have r8 : a.tmps.getD 8 undef = .int .i64 k := (hk 8 (Flow.mem_looks (by kernel_rfl))).before (by kernel_rfl)
          rw [if_pos (Flow.wanted_free rfl _)]
          refine Flow.step_value (v := .int .i64 k) ?_ ⟨Below.refl _ _, rfl⟩
          simp [execOp, Act.eval, r8, go_sem]
        | 2, ho =>
          have ho2 := Option.some.inj ho; clear ho; subst ho2
          have r16 : a.tmps.getD 16 undef = .slice (some ⟨b, o, none⟩) nl cl := (hk 16 (Flow.mem_looks (by kernel_rfl))).by_ 0 (by kernel_rfl) (by decide)
          have r17 : a.tmps.getD 17 undef = .int .i64 k := (hk 17 (Flow.mem_looks (by kernel_rfl))).by_ 1 (by kernel_rfl) (by decide)
          rw [if_pos (Flow.wanted_free rfl _)]
          refine Flow.step_value (v := .pointer (some ⟨b, o + k * 13, none⟩)) ?_ ⟨Below.refl _ _, rfl⟩
          simp [execOp, Act.eval, r16, r17, hkn, add_off, go_sem]
        | 3, ho =>
          have ho2 := Option.some.inj ho; clear ho; subst ho2
          have r18 : a.tmps.getD 18 undef = .pointer (some ⟨b, o + k * 13, none⟩) := (hk 18 (Flow.mem_looks (by kernel_rfl))).by_ 2 (by kernel_rfl) (by decide)
          rw [if_pos (Flow.wanted_free rfl _)]
          refine step_load_mid 29 (.tmp 18) rfl b (o + k * 13) r18 e.cells _ (HEnt.out.below hw).range Try.underlying29 rfl HCi.out ⟨Below.refl _ _, rfl⟩
        | 4, ho =>
          have ho2 := Option.some.inj ho; clear ho; subst ho2
          have r3 : a.tmps.getD 3 undef = .pointer (some ⟨Ba, 0, none⟩) := (hk 3 (Flow.mem_looks (by kernel_rfl))).before (by kernel_rfl)
          rw [if_pos (Flow.wanted_free rfl _)]
          refine step_load_mid 31 (.tmp 3) rfl Ba 0 r3 ak.cells _ (HAsk.out.below hw).range Try.underlying31 rfl HAi.out ⟨Below.refl _ _, rfl⟩
        | 5, ho =>
          have ho2 := Option.some.inj ho; clear ho; subst ho2
          have r19 : a.tmps.getD 19 undef = .agg e.cells.toArray := (hk 19 (Flow.mem_looks (by kernel_rfl))).by_ 3 (by kernel_rfl) (by decide)
          have r20 : a.tmps.getD 20 undef = .agg ak.cells.toArray := (hk 20 (Flow.mem_looks (by kernel_rfl))).by_ 4 (by kernel_rfl) (by decide)
          rw [if_pos (Flow.wanted_free rfl _)]
          refine Flow.step_call (f := 14) (args := #[.agg e.cells.toArray, .agg ak.cells.toArray]) (by simp [execOp, Act.eval, r19, r20, go_sem]) ?_
          refine (reffits_any e ak _ (HRow.out.below hw)).mono ?_
          rintro r w1 ⟨rfl, hb1⟩
          exact ⟨_, rfl, hb1, congrArg Value.bool HQ.out⟩
        | _ + 6, ho => exact absurd ho (by simp)
      case fin =>
        intro a4 w4 hw4 hd4 hs4 hg hold
        have ea := Flow.act_eq (a := a4) [.slice (some ⟨b, o, none⟩) nl cl, .agg X, undef, .pointer (some ⟨Ba, 0, none⟩), .pointer (some ⟨Br, 0, none⟩), .bool false, .int .i64 m, .pointer (some ⟨Bb, 0, none⟩), .int .i64 k, .agg X, a4.tmps.getD 10 undef, a4.tmps.getD 11 undef, a4.tmps.getD 12 undef, a4.tmps.getD 13 undef, a4.tmps.getD 14 undef, a4.tmps.getD 15 undef, a4.tmps.getD 16 undef, a4.tmps.getD 17 undef, a4.tmps.getD 18 undef, a4.tmps.getD 19 undef, a4.tmps.getD 20 undef, .bool q, a4.tmps.getD 22 undef, a4.tmps.getD 23 undef, a4.tmps.getD 24 undef, a4.tmps.getD 25 undef, a4.tmps.getD 26 undef, a4.tmps.getD 27 undef, a4.tmps.getD 28 undef, a4.tmps.getD 29 undef, a4.tmps.getD 30 undef, a4.tmps.getD 31 undef, a4.tmps.getD 32 undef, a4.tmps.getD 33 undef, a4.tmps.getD 34 undef, a4.tmps.getD 35 undef, a4.tmps.getD 36 undef, a4.tmps.getD 37 undef, a4.tmps.getD 38 undef, a4.tmps.getD 39 undef, a4.tmps.getD 40 undef, a4.tmps.getD 41 undef, undef, undef, undef, undef, undef, undef, undef, undef, undef, undef, undef] hs4 hd4 (by
          intro t ht
          match t, ht with
          | 0, _ => exact Flow.old_at hold 0 (by kernel_rfl)
          | 1, _ => exact Flow.old_at hold 1 (by kernel_rfl)
          | 2, _ => exact Flow.old_at hold 2 (by kernel_rfl)
          | 3, _ => exact Flow.old_at hold 3 (by kernel_rfl)
          | 4, _ => exact Flow.old_at hold 4 (by kernel_rfl)
          | 5, _ => exact Flow.old_at hold 5 (by kernel_rfl)
          | 6, _ => exact Flow.old_at hold 6 (by kernel_rfl)
          | 7, _ => exact Flow.old_at hold 7 (by kernel_rfl)
          | 8, _ => exact Flow.old_at hold 8 (by kernel_rfl)
          | 9, _ => exact Flow.old_at hold 9 (by kernel_rfl)
          | 10, _ => exact rfl
          | 11, _ => exact rfl
          | 12, _ => exact rfl
          | 13, _ => exact rfl
          | 14, _ => exact rfl
          | 15, _ => exact rfl
          | 16, _ => exact rfl
          | 17, _ => exact rfl
          | 18, _ => exact rfl
          | 19, _ => exact rfl
          | 20, _ => exact rfl
          | 21, _ => exact hg 5 _ 21 rfl rfl
          | 22, _ => exact rfl
          | 23, _ => exact rfl
          | 24, _ => exact rfl
          | 25, _ => exact rfl
          | 26, _ => exact rfl
          | 27, _ => exact rfl
          | 28, _ => exact rfl
          | 29, _ => exact rfl
          | 30, _ => exact rfl
          | 31, _ => exact rfl
          | 32, _ => exact rfl
          | 33, _ => exact rfl
          | 34, _ => exact rfl
          | 35, _ => exact rfl
          | 36, _ => exact rfl
          | 37, _ => exact rfl
          | 38, _ => exact rfl
          | 39, _ => exact rfl
          | 40, _ => exact rfl
          | 41, _ => exact rfl
          | 42, _ => exact Flow.old_at hold 42 (by kernel_rfl)
          | 43, _ => exact Flow.old_at hold 43 (by kernel_rfl)
          | 44, _ => exact Flow.old_at hold 44 (by kernel_rfl)
          | 45, _ => exact Flow.old_at hold 45 (by kernel_rfl)
          | 46, _ => exact Flow.old_at hold 46 (by kernel_rfl)
          | 47, _ => exact Flow.old_at hold 47 (by kernel_rfl)
          | 48, _ => exact Flow.old_at hold 48 (by kernel_rfl)
          | 49, _ => exact Flow.old_at hold 49 (by kernel_rfl)
          | 50, _ => exact Flow.old_at hold 50 (by kernel_rfl)
          | 51, _ => exact Flow.old_at hold 51 (by kernel_rfl)
          | 52, _ => exact Flow.old_at hold 52 (by kernel_rfl)
          | t + 53, ht => exact absurd ht (by simp))
        rw [ea]
        generalize a4.tmps.getD 10 undef = z10
        generalize a4.tmps.getD 11 undef = z11
        generalize a4.tmps.getD 12 undef = z12
        generalize a4.tmps.getD 13 undef = z13
        generalize a4.tmps.getD 14 undef = z14
        generalize a4.tmps.getD 15 undef = z15
        generalize a4.tmps.getD 16 undef = z16
        generalize a4.tmps.getD 17 undef = z17
        generalize a4.tmps.getD 18 undef = z18
        generalize a4.tmps.getD 19 undef = z19
        generalize a4.tmps.getD 20 undef = z20
        generalize a4.tmps.getD 22 undef = z22
        generalize a4.tmps.getD 23 undef = z23
        generalize a4.tmps.getD 24 undef = z24
        generalize a4.tmps.getD 25 undef = z25
        generalize a4.tmps.getD 26 undef = z26
        generalize a4.tmps.getD 27 undef = z27
        generalize a4.tmps.getD 28 undef = z28
        generalize a4.tmps.getD 29 undef = z29
        generalize a4.tmps.getD 30 undef = z30
        generalize a4.tmps.getD 31 undef = z31
        generalize a4.tmps.getD 32 undef = z32
        generalize a4.tmps.getD 33 undef = z33
        generalize a4.tmps.getD 34 undef = z34
        generalize a4.tmps.getD 35 undef = z35
        generalize a4.tmps.getD 36 undef = z36
        generalize a4.tmps.getD 37 undef = z37
        generalize a4.tmps.getD 38 undef = z38
        generalize a4.tmps.getD 39 undef = z39
        generalize a4.tmps.getD 40 undef = z40
        generalize a4.tmps.getD 41 undef = z41
        clear ea
        have hblk4 : w4.heap[Bb]? = some (.cells (mid ak L k).cells.toArray 31 (0, 0)) := (hw4.block Bb hc5).trans BK.out
        have X4 := Lib.hid (show Below Bb W1 w4 from BL.out.trans (hw4.mono (by omega)))
        have K4 := Lib.hid hblk4
        clear hd4 hs4 hg hold
        refine (‹∀ (a : Act) (w : World), Code.wp _ _ _ a w → _›) _ _ ?_
        cases q with
        | false =>
          clear hw4 hblk4
          go_wp2
          go_roundw
          case rel => exact ⟨k + 1, m, by omega, by go_num, rfl, by rw [HSL.out]; rfl, by rw [HST.out, if_neg (by simp)]; exact K4.out, X4.out⟩
          case measure => simp [intOf]; omega
        | true =>
          have h6 : w4.cell? ⟨Ba, 6, none⟩ = some (.int .i64 ak.limit) := (HAsk.out.below hw4) 6 (by rw [Ask.cells_length]; decide)
          obtain ⟨f1, f2, f3⟩ := blk_facts hblk4
          have hid0 : w4.cell? ⟨b, o + k * 13, none⟩ = some (.int .i64 e.it.id) := (HEnt.out.below hw4) 0 (by rw [Ent.cells_length]; decide)
          have hid2 : w4.cell? ⟨b, o + k * 13 + 2, none⟩ = some (.int .i64 e.it.tick) := (HEnt.out.below hw4) 2 (by rw [Ent.cells_length]; decide)
          have hne : b ≠ Bb := by
            intro hh
            have h1 := (HEnt.out.below hw4) 12 (by rw [Ent.cells_length]; decide)
            have h0 := (HEnt.out.below hw4) 0 (by rw [Ent.cells_length]; decide)
            rw [hh] at h1 h0
            simp [World.cell?, hblk4, Ask.cells, Ent.cells, Item.cells] at h1
          clear hw4 hblk4
          cases z with
          | false =>
            go_wp2
            go_roundw
            case rel => exact ⟨k + 1, m + 1, by omega, by go_num, by go_num, by rw [HSL.out]; rfl, by rw [HST.out, if_neg (by simp)]; exact K4.out, X4.out⟩
            case measure => simp [intOf]; omega
          | true =>
            go_wp2
            go_roundw
            case rel => exact ⟨k + 1, m + 1, by omega, by go_num, by go_num, by rw [HSL.out]; rfl, by rw [HST.out, if_pos (by simp), ← at1_cells rfl]; exact two_set K4.out, (X4.out.setCell (Nat.le_refl _) _).setCell (Nat.le_refl _) _⟩
            case measure => simp [intOf]; omega
    · have hkn : ¬ (k : Int) < nl := by omega
      have htk : L.take k = L := List.take_of_length_le (by rw [HL.out]; omega)
      have HAsk : Hid (At wr Ba 0 ak.cells) := Lib.hid (fun j hj => (World.cell?_of_block (hbel.block Ba (by have := HS.out; omega))).trans (HAsk1.out j hj))
      have h6 : wr.cell? ⟨Ba, 6, none⟩ = some (.int .i64 ak.limit) := HAsk.out 6 (by rw [Ask.cells_length]; decide)
      have hblr : wr.heap[Br]? = some (.cells Ask.zero.cells.toArray 31 (0, 0)) := (hbel.block Br (by have := HS.out; omega)).trans HBr.out
      have BR := Lib.hid hblr
      have XW := Lib.hid (show Below w.heap.size w wr from B1.out.trans (hbel.mono (by have := HS.out; omega)))
      have HZi := Lib.hid (show (Try.prog.info? 31).map (·.size) = some Ask.zero.cells.toArray.size by kernel_rfl)
      have HZ1 := Lib.hid (show Ask.zero.cells.toArray.all (·.oneCell') = true by kernel_rfl)
      rw [htk] at hm
      have hmid : mid ak L k = updE ak ((fl ak L).take ak.limit.toNat) := by unfold mid; rw [htk]
      rw [hmid] at hblk
      obtain ⟨U, hU⟩ : ∃ U, U = updE ak ((fl ak L).take ak.limit.toNat) := ⟨_, rfl⟩
      rw [← hU] at hblk
      have BB := Lib.hid hblk
      have HU1 := Lib.hid (show U.cells.toArray.all (·.oneCell') = true by rw [List.all_toArray, List.all_eq_true]; exact ask_one _)
      have HUi := Lib.hid (show (Try.prog.info? 31).map (·.size) = some U.cells.toArray.size by show _ = some U.cells.length; rw [Ask.cells_length]; kernel_rfl)
      have HU7 := Lib.hid (show Ask.zero.cells.toArray.size = U.cells.toArray.size from rfl)
      have HBW : Hid (∀ Y, Below w.heap.size w (wr.setRow Br Y)) := Lib.hid (fun Y => below_setRow XW.out (by have := HS.out; omega))
      obtain ⟨p, hp⟩ : ∃ p, p = decide (ak.limit < 1) := ⟨_, rfl⟩
      obtain ⟨r, hr⟩ : ∃ r, r = decide ((m : Int) ≤ ak.limit) := ⟨_, rfl⟩
      have hN : next ak L = if (p || r) = true then (Ask.zero, false) else (U, true) := by
        unfold next
        rw [← hm, hp, hr, ← hU]
        by_cases h1 : ak.limit < 1
        · rw [if_neg (by omega), if_pos (by simp [h1])]
        · by_cases h2 : (m : Int) ≤ ak.limit
          · rw [if_neg (by omega), if_pos (by simp [h2])]
          · rw [if_pos ⟨by omega, by omega⟩, if_neg (by simp [h1, h2])]
      have HN := Lib.hid hN
      have hp' := hp.symm
      have hr' := hr.symm
      clear hN hp hr hU hblk hmid hm htk hblr hbel BK BL HM
      cases p with
      | true =>
        go_wp2_with (refine wpList_store_row rfl 31 (.tmp 4) (.tmp 51) rfl Br Ask.zero.cells.toArray rfl rfl 31 _ BR.out HZi.out rfl HZ1.out ?_)
        refine bodyPost_ret (results_ct rfl _ _ Br 31 Ask.zero.cells.toArray (.bool false) (0, 0) _ rfl (setRow_heap _ _ _ _ _ _ BR.out) Try.underlying31 rfl HZi.out rfl) rfl ?_
        exact ⟨by rw [HN.out]; rfl, HBW.out _⟩
      | false =>
        cases r with
        | true =>
          go_wp2_with (refine wpList_store_row rfl 31 (.tmp 4) (.tmp 51) rfl Br Ask.zero.cells.toArray rfl rfl 31 _ BR.out HZi.out rfl HZ1.out ?_)
          refine bodyPost_ret (results_ct rfl _ _ Br 31 Ask.zero.cells.toArray (.bool false) (0, 0) _ rfl (setRow_heap _ _ _ _ _ _ BR.out) Try.underlying31 rfl HZi.out rfl) rfl ?_
          exact ⟨by rw [HN.out]; rfl, HBW.out _⟩
        | false =>
          go_wp2_with (first | (refine wpList_load_row rfl 31 (.tmp 7) rfl Bb rfl 31 U.cells.toArray (0, 0) _ BB.out Try.underlying31 rfl HUi.out ?_) | (refine wpList_store_row rfl 31 (.tmp 4) (.tmp 52) rfl Br U.cells.toArray rfl rfl 31 _ BR.out HUi.out HU7.out HU1.out ?_))
          refine bodyPost_ret (results_ct rfl _ _ Br 31 U.cells.toArray (.bool true) (0, 0) _ rfl (setRow_heap _ _ _ _ _ _ BR.out) Try.underlying31 rfl HUi.out rfl) rfl ?_
          exact ⟨by rw [HN.out]; rfl, HBW.out _⟩
end Go.Proofs.Ytbfnjfmnblafaaa.Qry
