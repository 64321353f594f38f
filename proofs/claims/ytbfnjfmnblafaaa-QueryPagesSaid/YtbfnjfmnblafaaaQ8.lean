/- The document's Run. -/
import Derived.Test.YtbfnjfmnblafaaaQ7
import Derived.Test.YtbfnjfmnblafaaaApp
import Derived.Test.YtbfnjfmnblafaaaFlowTail
namespace Go.Proofs.Ytbfnjfmnblafaaa.Qry
open Go.RowKit

theorem step_load_mid {P : Program} {o : Oper} {a : Act} {w : World} {post : Value → World → Prop} (ty : TypeId) (x : Operand) (ho : o.op = .load ty x) (b of : Nat) (hx : a.eval x = .pointer (some ⟨b, of, none⟩)) (cs : List Value) (d : TypeDesc) (hc : w.rangeAt b of cs)
    (hu : P.underlying ty = some d) (hd : d.isRow = true) (hi : (P.info? ty).map (·.size) = some cs.length) (hp : post (.agg cs.toArray) w) : Flow.step P o a w post := by
  refine Flow.step_value ?_ hp
  unfold execOp
  simp only [ho, hx, Instr.loadAt, Instr.sureAddr, Sem.run_bind, Sem.run_pure, Result.andThen_ok, run_loadVar_mid w b of ty cs d hc hu hd hi]
theorem src_one (w : World) (t : TypeId) (x : Value) (h : x.oneCell' = true) : Src (w.alloc (.cells #[x] t)) (some ⟨w.heap.size, 0, none⟩) 1 1 1 [x] := by
  refine .inr ⟨_, rfl, rfl, fun j u hu => ?_, fun u hu => ?_⟩
  · match j, hu with
    | 0, hu => cases hu; simp [add_off]
    | j + 1, hu => cases hu
  · obtain rfl := List.mem_singleton.1 hu
    exact h
theorem fl_take_step (a : Ask) (L : List Ent) (k : Nat) (hk : k < L.length) : fl a (L.take (k + 1)) = fl a (L.take k) ++ if fits L[k] a = true then [L[k]] else [] := by
  unfold fl
  rw [List.take_succ_eq_append_getElem hk, List.filter_append]
  congr 1
  by_cases h : fits L[k] a = true <;> simp [h]
theorem run_step (a : Ask) (L : List Ent) (k : Nat) (hk : k < L.length) : run a (L.take (k + 1)) = if (fits L[k] a && decide (((run a (L.take k)).length : Int) < a.limit)) = true then run a (L.take k) ++ [L[k].it.id] else run a (L.take k) := by
  have hlen : (run a (L.take k)).length = min a.limit.toNat (fl a (L.take k)).length := by unfold run; simp
  rw [hlen]
  unfold run
  rw [fl_take_step a L k hk]
  by_cases hf : fits L[k] a = true
  · rw [if_pos hf, hf, Bool.true_and]
    by_cases hl : ((min a.limit.toNat (fl a (L.take k)).length : Nat) : Int) < a.limit
    · rw [if_pos (decide_eq_true hl), List.take_of_length_le (by rw [List.length_append, List.length_singleton]; omega), List.take_of_length_le (l := fl a (L.take k)) (by omega), List.map_append]
      rfl
    · rw [if_neg (by rw [decide_eq_false hl]; decide), List.take_append_of_le_length (by omega)]
  · rw [if_neg hf, List.append_nil]
    have : fits L[k] a = false := by simpa using hf
    rw [this, Bool.false_and]
    simp
def G17 (b o nl cl k Ba : Nat) (e : Ent) (ak : Ask) (A1 : Option Addr) (n1 c1 : Nat) (z : Bool) : Nat → Value → World → Prop
  | 0 => fun v _ => v = .slice (some ⟨b, o, none⟩) nl cl
  | 1 => fun v _ => v = .int .i64 k
  | 2 => fun v _ => v = .pointer (some ⟨b, o + k * 13, none⟩)
  | 3 => fun v _ => v = .agg e.cells.toArray
  | 4 => fun v _ => v = .agg ak.cells.toArray
  | 5 => fun v _ => v = .bool true
  | 6 => fun v _ => v = .bool true
  | 7 => fun v _ => v = .slice A1 n1 c1
  | 8 => fun v _ => v = .int .i64 n1
  | 9 => fun v _ => v = .pointer (some ⟨Ba, 6, none⟩)
  | 10 => fun v _ => v = .int .i64 ak.limit
  | 11 => fun v _ => v = .bool z
  | 12 => fun v _ => v = .bool z
  | _ => fun _ _ => True
theorem G17_stable (b o nl cl k Ba : Nat) (e : Ent) (ak : Ask) (A1 : Option Addr) (n1 c1 : Nat) (z : Bool) : ∀ i v w w', G17 b o nl cl k Ba e ak A1 n1 c1 z i v w → Below w.heap.size w w' → G17 b o nl cl k Ba e ak A1 n1 c1 z i v w' := by
  intro i v w w' h hb
  match i, h with
  | 0, h => exact h
  | 1, h => exact h
  | 2, h => exact h
  | 3, h => exact h
  | 4, h => exact h
  | 5, h => exact h
  | 6, h => exact h
  | 7, h => exact h
  | 8, h => exact h
  | 9, h => exact h
  | 10, h => exact h
  | 11, h => exact h
  | 12, h => exact h
  | _ + 13, _ => exact trivial
def G17f (b o nl cl k _Ba : Nat) (e : Ent) (ak : Ask) (_A1 : Option Addr) (_n1 _c1 : Nat) (_z : Bool) : Nat → Value → World → Prop
  | 0 => fun v _ => v = .slice (some ⟨b, o, none⟩) nl cl
  | 1 => fun v _ => v = .int .i64 k
  | 2 => fun v _ => v = .pointer (some ⟨b, o + k * 13, none⟩)
  | 3 => fun v _ => v = .agg e.cells.toArray
  | 4 => fun v _ => v = .agg ak.cells.toArray
  | 5 => fun v _ => v = .bool false
  | 6 => fun v _ => v = .bool false
  | 7 => fun v _ => v = undef
  | 8 => fun v _ => v = undef
  | 9 => fun v _ => v = undef
  | 10 => fun v _ => v = undef
  | 11 => fun v _ => v = undef
  | 12 => fun v _ => v = .bool false
  | _ => fun _ _ => True
theorem G17f_stable (b o nl cl k Ba : Nat) (e : Ent) (ak : Ask) (A1 : Option Addr) (n1 c1 : Nat) (z : Bool) : ∀ i v w w', G17f b o nl cl k Ba e ak A1 n1 c1 z i v w → Below w.heap.size w w' → G17f b o nl cl k Ba e ak A1 n1 c1 z i v w' := by
  intro i v w w' h hb
  match i, h with
  | 0, h => exact h
  | 1, h => exact h
  | 2, h => exact h
  | 3, h => exact h
  | 4, h => exact h
  | 5, h => exact h
  | 6, h => exact h
  | 7, h => exact h
  | 8, h => exact h
  | 9, h => exact h
  | 10, h => exact h
  | 11, h => exact h
  | 12, h => exact h
  | _ + 13, _ => exact trivial
set_option maxRecDepth 100000 in
set_option maxHeartbeats 4000000 in
theorem refrun_any (A : Option Addr) (nl cl : Nat) (L : List Ent) (ak : Ask) (w : World) (hE : Ents w A nl cl L) (hnl : nl ≤ 100000) :
    Calls Try.prog 17 #[.slice A nl cl, .agg ak.cells.toArray] w (RunPost w (run ak L)) := by
  obtain ⟨X, hX⟩ : ∃ X, X = ak.cells.toArray := ⟨_, rfl⟩
  rw [← hX]
  have HX := Lib.hid hX
  have HE := Lib.hid hE
  have HL := Lib.hid hE.len
  have hle := hE.le
  have hsm := hE.small
  clear hX hE
  go_enter Try.func17, Try.ntmps17
  go_upto_region 1 with (fail)
  obtain ⟨W1, hW1⟩ : ∃ W, W = w.alloc (.cells X 31) := ⟨_, rfl⟩
  rw [← hW1]
  have hB1 : Below w.heap.size w W1 := by rw [hW1]; exact (Below.refl _ _).alloc (Nat.le_refl _) _
  obtain ⟨Ba, hBa⟩ : ∃ b, b = w.heap.size := ⟨_, rfl⟩
  rw [← hBa]
  have hat : At W1 Ba 0 ak.cells := by rw [hW1, HX.out, hBa]; exact at_alloc 31
  have B1 := Lib.hid hB1
  have AT := Lib.hid hat
  clear hB1 hat hW1 hBa
  go_wp2
  go_loopw [5, 6] (fun v i wr => ∃ k : Nat, k ≤ nl ∧ i = .int .i64 k ∧ Own wr .i64 2 W1.heap.size v (run ak (L.take k)).length (run ak (L.take k)) ∧ Below W1.heap.size W1 wr) (fun _ i _ => nl - (intOf i).toNat)
  case atStart => exact ⟨0, Nat.zero_le _, rfl, by rw [show run ak (L.take 0) = [] by simp [run, fl]]; exact World.ownsRow_nil _ _ _ _, Below.refl _ _⟩
  case round =>
    obtain ⟨k, hk, rfl, hown, hbel⟩ := hrel
    have OW := Lib.hid hown
    have BL := Lib.hid hbel
    by_cases hlt : k < nl
    · have hkn : (k : Int) < nl := by omega
      have hkL : k < L.length := by rw [HL.out]; exact hlt
      have hEw := (HE.out.below B1.out).below (hbel.mono (Nat.le_refl _))
      obtain ⟨ad, hAd⟩ : ∃ ad, A = some ad := by
        cases A with
        | none => have := HE.out.nil rfl; omega
        | some ad => exact ⟨ad, rfl⟩
      obtain ⟨b, o, rfl, hcells⟩ := hEw.spot ad hAd (by omega)
      subst hAd
      obtain ⟨e, he⟩ : ∃ e, e = L[k] := ⟨_, rfl⟩
      have hatE := hcells k hkL
      rw [← he] at hatE
      have HEnt := Lib.hid hatE
      have HRow := Lib.hid (hEw.rows e (by rw [he]; exact List.getElem_mem hkL))
      have HAsk := Lib.hid (AT.out.below hbel)
      have HCi := Lib.hid (show (Try.prog.info? 29).map (·.size) = some e.cells.length by rw [Ent.cells_length]; kernel_rfl)
      have HAi := Lib.hid (show (Try.prog.info? 31).map (·.size) = some ak.cells.length by rw [Ask.cells_length]; kernel_rfl)
      obtain ⟨A1, c1, rfl, hrd, _⟩ := hown.rd
      obtain ⟨n1, hn1⟩ : ∃ n, n = (run ak (L.take k)).length := ⟨_, rfl⟩
      have hn1b : n1 ≤ k := by
        rw [hn1]; unfold run
        rw [List.length_map, List.length_take]
        refine Nat.le_trans (Nat.min_le_right _ _) (Nat.le_trans (List.length_filter_le _ _) ?_)
        rw [List.length_take]; omega
      have hst := run_step ak L k hkL
      rw [← he, ← hn1] at hst
      rw [← hn1] at hown hrd ⊢
      have OW := Lib.hid hown
      have hc1 := hrd.le
      have hc2 := hrd.small
      obtain ⟨q, hq⟩ : ∃ q, q = fits e ak := ⟨_, rfl⟩
      rw [← hq] at hst
      have HQ := Lib.hid hq.symm
      have HST := Lib.hid hst
      have HN1 := Lib.hid hn1
      have c5 : (W1.heap.size ≤ wr.heap.size) := hbel.size
      clear hown hbel hEw hcells he hatE hrd hst hq hn1
      rw [← HX.out] at *
      obtain ⟨z, hz⟩ : ∃ z, z = decide ((n1 : Int) < ak.limit) := ⟨_, rfl⟩
      have HZ := Lib.hid hz.symm
      clear hz
      cases q with
      | true =>
        go_wp2_with fail
        refine Flow.wp_region_flow (by kernel_rfl) (G17 b o nl cl k Ba e ak A1 n1 c1 z) (by kernel_rfl) (G17_stable b o nl cl k Ba e ak A1 n1 c1 z) ?loc ?fin
        case loc =>
          intro i o ho a w hw hk
          match i, ho with
          | 0, ho =>
            have ho2 := Option.some.inj ho; clear ho; subst ho2
            have r0 : a.tmps.getD 0 undef = .slice (some ⟨b, o, none⟩) nl cl := (hk 0 (Flow.mem_looks (by kernel_rfl))).before (by kernel_rfl)
            rw [if_pos (Flow.wanted_free rfl _)]
            refine Flow.step_value (v := .slice (some ⟨b, o, none⟩) nl cl) ?_ ⟨Below.refl _ _, rfl⟩
            simp [execOp, Act.eval, r0, go_sem]
          | 1, ho =>
            have ho2 := Option.some.inj ho; clear ho; subst ho2
            have r6 : a.tmps.getD 6 undef = .int .i64 k := (hk 6 (Flow.mem_looks (by kernel_rfl))).before (by kernel_rfl)
            rw [if_pos (Flow.wanted_free rfl _)]
            refine Flow.step_value (v := .int .i64 k) ?_ ⟨Below.refl _ _, rfl⟩
            simp [execOp, Act.eval, r6, go_sem]
          | 2, ho =>
            have ho2 := Option.some.inj ho; clear ho; subst ho2
            have r13 : a.tmps.getD 13 undef = .slice (some ⟨b, o, none⟩) nl cl := (hk 13 (Flow.mem_looks (by kernel_rfl))).by_ 0 (by kernel_rfl) (by decide)
            have r14 : a.tmps.getD 14 undef = .int .i64 k := (hk 14 (Flow.mem_looks (by kernel_rfl))).by_ 1 (by kernel_rfl) (by decide)
            rw [if_pos (Flow.wanted_free rfl _)]
            refine Flow.step_value (v := .pointer (some ⟨b, o + k * 13, none⟩)) ?_ ⟨Below.refl _ _, rfl⟩
            simp [execOp, Act.eval, r13, r14, hkn, add_off, go_sem]
          | 3, ho =>
            have ho2 := Option.some.inj ho; clear ho; subst ho2
            have r15 : a.tmps.getD 15 undef = .pointer (some ⟨b, o + k * 13, none⟩) := (hk 15 (Flow.mem_looks (by kernel_rfl))).by_ 2 (by kernel_rfl) (by decide)
            rw [if_pos (Flow.wanted_free rfl _)]
            refine step_load_mid 29 (.tmp 15) rfl b (o + k * 13) r15 e.cells _ (HEnt.out.below hw).range Try.underlying29 rfl HCi.out ⟨Below.refl _ _, rfl⟩
          | 4, ho =>
            have ho2 := Option.some.inj ho; clear ho; subst ho2
            have r3 : a.tmps.getD 3 undef = .pointer (some ⟨Ba, 0, none⟩) := (hk 3 (Flow.mem_looks (by kernel_rfl))).before (by kernel_rfl)
            rw [if_pos (Flow.wanted_free rfl _)]
            refine step_load_mid 31 (.tmp 3) rfl Ba 0 r3 ak.cells _ (HAsk.out.below hw).range Try.underlying31 rfl HAi.out ⟨Below.refl _ _, rfl⟩
          | 5, ho =>
            have ho2 := Option.some.inj ho; clear ho; subst ho2
            have r16 : a.tmps.getD 16 undef = .agg e.cells.toArray := (hk 16 (Flow.mem_looks (by kernel_rfl))).by_ 3 (by kernel_rfl) (by decide)
            have r17 : a.tmps.getD 17 undef = .agg ak.cells.toArray := (hk 17 (Flow.mem_looks (by kernel_rfl))).by_ 4 (by kernel_rfl) (by decide)
            rw [if_pos (Flow.wanted_free rfl _)]
            refine Flow.step_call (f := 14) (args := #[.agg e.cells.toArray, .agg ak.cells.toArray]) (by simp [execOp, Act.eval, r16, r17, go_sem]) ?_
            refine (reffits_any e ak _ (HRow.out.below hw)).mono ?_
            rintro r w1 ⟨rfl, hb1⟩
            exact ⟨_, rfl, hb1, congrArg Value.bool HQ.out⟩
          | 6, ho =>
            have ho2 := Option.some.inj ho; clear ho; subst ho2
            have r18 : a.tmps.getD 18 undef = .bool true := (hk 18 (Flow.mem_looks (by kernel_rfl))).by_ 5 (by kernel_rfl) (by decide)
            rw [if_pos (Flow.wanted_free rfl _)]
            refine Flow.step_value (v := .bool true) ?_ ⟨Below.refl _ _, rfl⟩
            simp [execOp, Act.eval, r18, go_sem]
          | 7, ho =>
            have ho2 := Option.some.inj ho; clear ho; subst ho2
            have r5 : a.tmps.getD 5 undef = .slice A1 n1 c1 := (hk 5 (Flow.mem_looks (by kernel_rfl))).before (by kernel_rfl)
            have r19 : a.tmps.getD 19 undef = .bool true := (hk 19 (Flow.mem_looks (by kernel_rfl))).by_ 6 (by kernel_rfl) (by decide)
            rw [if_pos (Flow.wanted_by (t := 19) rfl (by kernel_rfl) r19)]
            refine Flow.step_value (v := .slice A1 n1 c1) ?_ ⟨Below.refl _ _, rfl⟩
            simp [execOp, Act.eval, r5, go_sem]
          | 8, ho =>
            have ho2 := Option.some.inj ho; clear ho; subst ho2
            have r20 : a.tmps.getD 20 undef = .slice A1 n1 c1 := (hk 20 (Flow.mem_looks (by kernel_rfl))).by_ 7 (by kernel_rfl) (by decide)
            have r19 : a.tmps.getD 19 undef = .bool true := (hk 19 (Flow.mem_looks (by kernel_rfl))).by_ 6 (by kernel_rfl) (by decide)
            rw [if_pos (Flow.wanted_by (t := 19) rfl (by kernel_rfl) r19)]
            refine Flow.step_value (v := .int .i64 n1) ?_ ⟨Below.refl _ _, rfl⟩
            simp [execOp, Act.eval, r20, go_sem]
          | 9, ho =>
            have ho2 := Option.some.inj ho; clear ho; subst ho2
            have r3 : a.tmps.getD 3 undef = .pointer (some ⟨Ba, 0, none⟩) := (hk 3 (Flow.mem_looks (by kernel_rfl))).before (by kernel_rfl)
            have r19 : a.tmps.getD 19 undef = .bool true := (hk 19 (Flow.mem_looks (by kernel_rfl))).by_ 6 (by kernel_rfl) (by decide)
            rw [if_pos (Flow.wanted_by (t := 19) rfl (by kernel_rfl) r19)]
            refine Flow.step_value (v := .pointer (some ⟨Ba, 6, none⟩)) ?_ ⟨Below.refl _ _, rfl⟩
            simp [execOp, Act.eval, r3, go_sem]
          | 10, ho =>
            have ho2 := Option.some.inj ho; clear ho; subst ho2
            have r22 : a.tmps.getD 22 undef = .pointer (some ⟨Ba, 6, none⟩) := (hk 22 (Flow.mem_looks (by kernel_rfl))).by_ 9 (by kernel_rfl) (by decide)
            have r19 : a.tmps.getD 19 undef = .bool true := (hk 19 (Flow.mem_looks (by kernel_rfl))).by_ 6 (by kernel_rfl) (by decide)
            rw [if_pos (Flow.wanted_by (t := 19) rfl (by kernel_rfl) r19)]
            have h6 : w.cell? ⟨Ba, 6, none⟩ = some (.int .i64 ak.limit) := (HAsk.out.below hw) 6 (by rw [Ask.cells_length]; decide)
            refine Flow.step_value (v := .int .i64 ak.limit) ?_ ⟨Below.refl _ _, rfl⟩
            simp [execOp, Act.eval, r22, h6, go_sem]
          | 11, ho =>
            have ho2 := Option.some.inj ho; clear ho; subst ho2
            have r21 : a.tmps.getD 21 undef = .int .i64 n1 := (hk 21 (Flow.mem_looks (by kernel_rfl))).by_ 8 (by kernel_rfl) (by decide)
            have r23 : a.tmps.getD 23 undef = .int .i64 ak.limit := (hk 23 (Flow.mem_looks (by kernel_rfl))).by_ 10 (by kernel_rfl) (by decide)
            have r19 : a.tmps.getD 19 undef = .bool true := (hk 19 (Flow.mem_looks (by kernel_rfl))).by_ 6 (by kernel_rfl) (by decide)
            rw [if_pos (Flow.wanted_by (t := 19) rfl (by kernel_rfl) r19)]
            refine Flow.step_value (v := .bool z) ?_ ⟨Below.refl _ _, rfl⟩
            simp [execOp, Act.eval, r21, r23, HZ.out, go_sem]
          | 12, ho =>
            have ho2 := Option.some.inj ho; clear ho; subst ho2
            have r19 : a.tmps.getD 19 undef = .bool true := (hk 19 (Flow.mem_looks (by kernel_rfl))).by_ 6 (by kernel_rfl) (by decide)
            have r24 : a.tmps.getD 24 undef = .bool z := (hk 24 (Flow.mem_looks (by kernel_rfl))).by_ 11 (by kernel_rfl) (by decide)
            rw [if_pos (Flow.wanted_free rfl _)]
            refine Flow.step_value (v := .bool z) ?_ ⟨Below.refl _ _, rfl⟩
            simp [execOp, Act.eval, r19, r24, go_sem]
          | _ + 13, ho => exact absurd ho (by simp)
        case fin =>
          intro a4 w4 hw4 hd4 hs4 hg hold
          have ea := Flow.act_eq (a := a4) [.slice (some ⟨b, o, none⟩) nl cl, .agg X, undef, .pointer (some ⟨Ba, 0, none⟩), .slice none 0 0, .slice A1 n1 c1, .int .i64 k, a4.tmps.getD 7 undef, a4.tmps.getD 8 undef, a4.tmps.getD 9 undef, a4.tmps.getD 10 undef, a4.tmps.getD 11 undef, a4.tmps.getD 12 undef, a4.tmps.getD 13 undef, a4.tmps.getD 14 undef, a4.tmps.getD 15 undef, a4.tmps.getD 16 undef, a4.tmps.getD 17 undef, a4.tmps.getD 18 undef, a4.tmps.getD 19 undef, a4.tmps.getD 20 undef, a4.tmps.getD 21 undef, a4.tmps.getD 22 undef, a4.tmps.getD 23 undef, a4.tmps.getD 24 undef, .bool z, a4.tmps.getD 26 undef, a4.tmps.getD 27 undef, a4.tmps.getD 28 undef, a4.tmps.getD 29 undef, a4.tmps.getD 30 undef, a4.tmps.getD 31 undef, a4.tmps.getD 32 undef, a4.tmps.getD 33 undef, a4.tmps.getD 34 undef, undef] hs4 hd4 (by
            intro t ht
            match t, ht with
            | 0, _ => exact Flow.old_at hold 0 (by kernel_rfl)
            | 1, _ => exact Flow.old_at hold 1 (by kernel_rfl)
            | 2, _ => exact Flow.old_at hold 2 (by kernel_rfl)
            | 3, _ => exact Flow.old_at hold 3 (by kernel_rfl)
            | 4, _ => exact Flow.old_at hold 4 (by kernel_rfl)
            | 5, _ => exact Flow.old_at hold 5 (by kernel_rfl)
            | 6, _ => exact Flow.old_at hold 6 (by kernel_rfl)
            | 7, _ => exact rfl
            | 8, _ => exact rfl
            | 9, _ => exact rfl
            | 10, _ => exact rfl
            | 11, _ => exact rfl
            | 12, _ => exact rfl
            | 13, _ => exact rfl
            | 14, _ => exact rfl
            | 15, _ => exact rfl
            | 16, _ => exact rfl
            | 17, _ => exact rfl
            | 18, _ => exact rfl
            | 19, _ => exact rfl
            | 20, _ => exact rfl
            | 21, _ => exact rfl
            | 22, _ => exact rfl
            | 23, _ => exact rfl
            | 24, _ => exact rfl
            | 25, _ => exact hg 12 _ 25 rfl rfl
            | 26, _ => exact rfl
            | 27, _ => exact rfl
            | 28, _ => exact rfl
            | 29, _ => exact rfl
            | 30, _ => exact rfl
            | 31, _ => exact rfl
            | 32, _ => exact rfl
            | 33, _ => exact rfl
            | 34, _ => exact rfl
            | 35, _ => exact Flow.old_at hold 35 (by kernel_rfl)
            | t + 36, ht => exact absurd ht (by simp))
          rw [ea]
          generalize a4.tmps.getD 7 undef = z7
          generalize a4.tmps.getD 8 undef = z8
          generalize a4.tmps.getD 9 undef = z9
          generalize a4.tmps.getD 10 undef = z10
          generalize a4.tmps.getD 11 undef = z11
          generalize a4.tmps.getD 12 undef = z12
          generalize a4.tmps.getD 13 undef = z13
          generalize a4.tmps.getD 14 undef = z14
          generalize a4.tmps.getD 15 undef = z15
          generalize a4.tmps.getD 16 undef = z16
          generalize a4.tmps.getD 17 undef = z17
          generalize a4.tmps.getD 18 undef = z18
          generalize a4.tmps.getD 19 undef = z19
          generalize a4.tmps.getD 20 undef = z20
          generalize a4.tmps.getD 21 undef = z21
          generalize a4.tmps.getD 22 undef = z22
          generalize a4.tmps.getD 23 undef = z23
          generalize a4.tmps.getD 24 undef = z24
          generalize a4.tmps.getD 26 undef = z26
          generalize a4.tmps.getD 27 undef = z27
          generalize a4.tmps.getD 28 undef = z28
          generalize a4.tmps.getD 29 undef = z29
          generalize a4.tmps.getD 30 undef = z30
          generalize a4.tmps.getD 31 undef = z31
          generalize a4.tmps.getD 32 undef = z32
          generalize a4.tmps.getD 33 undef = z33
          generalize a4.tmps.getD 34 undef = z34
          clear ea
          have hid : w4.cell? ⟨b, o + k * 13, none⟩ = some (.int .i64 e.it.id) := (HEnt.out.below hw4) 0 (by rw [Ent.cells_length]; decide)
          have X4 := Lib.hid (below_trans BL.out hw4 BL.out.size)
          have O4 := Lib.hid (Own.below OW.out hw4)
          have c6 := hw4.size
          clear hd4 hs4 hg hold hw4
          refine (‹∀ (a : Act) (w : World), Code.wp _ _ _ a w → _›) _ _ ?_
          cases z with
          | false =>
            go_wp2
            go_roundw
            case rel => exact ⟨k + 1, by omega, by go_num, by rw [HST.out, if_neg (by rw [HZ.out]; decide), ← HN1.out]; exact O4.out, X4.out⟩
            case measure => simp [intOf]; omega
          | true =>
            go_wp2_with (at_builtin; refine append_src rfl (.tmp 26) (.tmp 33) 38 2 (.int .i64 0) 1 8 rfl Try.underlying38 infoN rfl (by decide) W1.heap.size _ n1 _ rfl (O4.out.alloc _) (some ⟨w4.heap.size, 0, none⟩) 1 1 [.int .i64 e.it.id] rfl (src_one w4 2 _ rfl) (by unfold maxLen; omega) (by omega) (by simp; omega) ?_; intro v' w5 hown hg; have H5 := Lib.hid hown; have G5 := Lib.hid hg; clear hown hg)
            go_roundw
            case rel =>
              refine ⟨k + 1, by omega, by go_num, ?_, below_grown (X4.out.alloc (by omega) _) G5.out (by simp; omega) (Qry.Own.ge O4.out)⟩
              rw [HST.out, if_pos (by rw [HZ.out]; decide), List.length_append, List.length_singleton, ← HN1.out]
              unfold Own
              rw [List.map_append]
              exact H5.out
            case measure => simp [intOf]; omega
      | false =>
        go_wp2_with fail
        refine Flow.wp_region_flow (by kernel_rfl) (G17f b o nl cl k Ba e ak A1 n1 c1 z) (by kernel_rfl) (G17f_stable b o nl cl k Ba e ak A1 n1 c1 z) ?loc ?fin
        case loc =>
          intro i o ho a w hw hk
          match i, ho with
          | 0, ho =>
            have ho2 := Option.some.inj ho; clear ho; subst ho2
            have r0 : a.tmps.getD 0 undef = .slice (some ⟨b, o, none⟩) nl cl := (hk 0 (Flow.mem_looks (by kernel_rfl))).before (by kernel_rfl)
            rw [if_pos (Flow.wanted_free rfl _)]
            refine Flow.step_value (v := .slice (some ⟨b, o, none⟩) nl cl) ?_ ⟨Below.refl _ _, rfl⟩
            simp [execOp, Act.eval, r0, go_sem]
          | 1, ho =>
            have ho2 := Option.some.inj ho; clear ho; subst ho2
            have r6 : a.tmps.getD 6 undef = .int .i64 k := (hk 6 (Flow.mem_looks (by kernel_rfl))).before (by kernel_rfl)
            rw [if_pos (Flow.wanted_free rfl _)]
            refine Flow.step_value (v := .int .i64 k) ?_ ⟨Below.refl _ _, rfl⟩
            simp [execOp, Act.eval, r6, go_sem]
          | 2, ho =>
            have ho2 := Option.some.inj ho; clear ho; subst ho2
            have r13 : a.tmps.getD 13 undef = .slice (some ⟨b, o, none⟩) nl cl := (hk 13 (Flow.mem_looks (by kernel_rfl))).by_ 0 (by kernel_rfl) (by decide)
            have r14 : a.tmps.getD 14 undef = .int .i64 k := (hk 14 (Flow.mem_looks (by kernel_rfl))).by_ 1 (by kernel_rfl) (by decide)
            rw [if_pos (Flow.wanted_free rfl _)]
            refine Flow.step_value (v := .pointer (some ⟨b, o + k * 13, none⟩)) ?_ ⟨Below.refl _ _, rfl⟩
            simp [execOp, Act.eval, r13, r14, hkn, add_off, go_sem]
          | 3, ho =>
            have ho2 := Option.some.inj ho; clear ho; subst ho2
            have r15 : a.tmps.getD 15 undef = .pointer (some ⟨b, o + k * 13, none⟩) := (hk 15 (Flow.mem_looks (by kernel_rfl))).by_ 2 (by kernel_rfl) (by decide)
            rw [if_pos (Flow.wanted_free rfl _)]
            refine step_load_mid 29 (.tmp 15) rfl b (o + k * 13) r15 e.cells _ (HEnt.out.below hw).range Try.underlying29 rfl HCi.out ⟨Below.refl _ _, rfl⟩
          | 4, ho =>
            have ho2 := Option.some.inj ho; clear ho; subst ho2
            have r3 : a.tmps.getD 3 undef = .pointer (some ⟨Ba, 0, none⟩) := (hk 3 (Flow.mem_looks (by kernel_rfl))).before (by kernel_rfl)
            rw [if_pos (Flow.wanted_free rfl _)]
            refine step_load_mid 31 (.tmp 3) rfl Ba 0 r3 ak.cells _ (HAsk.out.below hw).range Try.underlying31 rfl HAi.out ⟨Below.refl _ _, rfl⟩
          | 5, ho =>
            have ho2 := Option.some.inj ho; clear ho; subst ho2
            have r16 : a.tmps.getD 16 undef = .agg e.cells.toArray := (hk 16 (Flow.mem_looks (by kernel_rfl))).by_ 3 (by kernel_rfl) (by decide)
            have r17 : a.tmps.getD 17 undef = .agg ak.cells.toArray := (hk 17 (Flow.mem_looks (by kernel_rfl))).by_ 4 (by kernel_rfl) (by decide)
            rw [if_pos (Flow.wanted_free rfl _)]
            refine Flow.step_call (f := 14) (args := #[.agg e.cells.toArray, .agg ak.cells.toArray]) (by simp [execOp, Act.eval, r16, r17, go_sem]) ?_
            refine (reffits_any e ak _ (HRow.out.below hw)).mono ?_
            rintro r w1 ⟨rfl, hb1⟩
            exact ⟨_, rfl, hb1, congrArg Value.bool HQ.out⟩
          | 6, ho =>
            have ho2 := Option.some.inj ho; clear ho; subst ho2
            have r18 : a.tmps.getD 18 undef = .bool false := (hk 18 (Flow.mem_looks (by kernel_rfl))).by_ 5 (by kernel_rfl) (by decide)
            rw [if_pos (Flow.wanted_free rfl _)]
            refine Flow.step_value (v := .bool false) ?_ ⟨Below.refl _ _, rfl⟩
            simp [execOp, Act.eval, r18, go_sem]
          | 7, ho =>
            have ho2 := Option.some.inj ho; clear ho; subst ho2
            have r5 : a.tmps.getD 5 undef = .slice A1 n1 c1 := (hk 5 (Flow.mem_looks (by kernel_rfl))).before (by kernel_rfl)
            have r19 : a.tmps.getD 19 undef = .bool false := (hk 19 (Flow.mem_looks (by kernel_rfl))).by_ 6 (by kernel_rfl) (by decide)
            rw [if_neg (by rw [Flow.unwanted_by rfl (t := 19) (by kernel_rfl) r19]; decide)]
            exact rfl
          | 8, ho =>
            have ho2 := Option.some.inj ho; clear ho; subst ho2
            have r20 : a.tmps.getD 20 undef = undef := (hk 20 (Flow.mem_looks (by kernel_rfl))).by_ 7 (by kernel_rfl) (by decide)
            have r19 : a.tmps.getD 19 undef = .bool false := (hk 19 (Flow.mem_looks (by kernel_rfl))).by_ 6 (by kernel_rfl) (by decide)
            rw [if_neg (by rw [Flow.unwanted_by rfl (t := 19) (by kernel_rfl) r19]; decide)]
            exact rfl
          | 9, ho =>
            have ho2 := Option.some.inj ho; clear ho; subst ho2
            have r3 : a.tmps.getD 3 undef = .pointer (some ⟨Ba, 0, none⟩) := (hk 3 (Flow.mem_looks (by kernel_rfl))).before (by kernel_rfl)
            have r19 : a.tmps.getD 19 undef = .bool false := (hk 19 (Flow.mem_looks (by kernel_rfl))).by_ 6 (by kernel_rfl) (by decide)
            rw [if_neg (by rw [Flow.unwanted_by rfl (t := 19) (by kernel_rfl) r19]; decide)]
            exact rfl
          | 10, ho =>
            have ho2 := Option.some.inj ho; clear ho; subst ho2
            have r22 : a.tmps.getD 22 undef = undef := (hk 22 (Flow.mem_looks (by kernel_rfl))).by_ 9 (by kernel_rfl) (by decide)
            have r19 : a.tmps.getD 19 undef = .bool false := (hk 19 (Flow.mem_looks (by kernel_rfl))).by_ 6 (by kernel_rfl) (by decide)
            rw [if_neg (by rw [Flow.unwanted_by rfl (t := 19) (by kernel_rfl) r19]; decide)]
            exact rfl
          | 11, ho =>
            have ho2 := Option.some.inj ho; clear ho; subst ho2
            have r21 : a.tmps.getD 21 undef = undef := (hk 21 (Flow.mem_looks (by kernel_rfl))).by_ 8 (by kernel_rfl) (by decide)
            have r23 : a.tmps.getD 23 undef = undef := (hk 23 (Flow.mem_looks (by kernel_rfl))).by_ 10 (by kernel_rfl) (by decide)
            have r19 : a.tmps.getD 19 undef = .bool false := (hk 19 (Flow.mem_looks (by kernel_rfl))).by_ 6 (by kernel_rfl) (by decide)
            rw [if_neg (by rw [Flow.unwanted_by rfl (t := 19) (by kernel_rfl) r19]; decide)]
            exact rfl
          | 12, ho =>
            have ho2 := Option.some.inj ho; clear ho; subst ho2
            have r19 : a.tmps.getD 19 undef = .bool false := (hk 19 (Flow.mem_looks (by kernel_rfl))).by_ 6 (by kernel_rfl) (by decide)
            have r24 : a.tmps.getD 24 undef = undef := (hk 24 (Flow.mem_looks (by kernel_rfl))).by_ 11 (by kernel_rfl) (by decide)
            rw [if_pos (Flow.wanted_free rfl _)]
            refine Flow.step_value (v := .bool false) ?_ ⟨Below.refl _ _, rfl⟩
            simp [execOp, Act.eval, r19, r24, go_sem]
          | _ + 13, ho => exact absurd ho (by simp)
        case fin =>
          intro a4 w4 hw4 hd4 hs4 hg hold
          have ea := Flow.act_eq (a := a4) [.slice (some ⟨b, o, none⟩) nl cl, .agg X, undef, .pointer (some ⟨Ba, 0, none⟩), .slice none 0 0, .slice A1 n1 c1, .int .i64 k, a4.tmps.getD 7 undef, a4.tmps.getD 8 undef, a4.tmps.getD 9 undef, a4.tmps.getD 10 undef, a4.tmps.getD 11 undef, a4.tmps.getD 12 undef, a4.tmps.getD 13 undef, a4.tmps.getD 14 undef, a4.tmps.getD 15 undef, a4.tmps.getD 16 undef, a4.tmps.getD 17 undef, a4.tmps.getD 18 undef, a4.tmps.getD 19 undef, a4.tmps.getD 20 undef, a4.tmps.getD 21 undef, a4.tmps.getD 22 undef, a4.tmps.getD 23 undef, a4.tmps.getD 24 undef, .bool false, a4.tmps.getD 26 undef, a4.tmps.getD 27 undef, a4.tmps.getD 28 undef, a4.tmps.getD 29 undef, a4.tmps.getD 30 undef, a4.tmps.getD 31 undef, a4.tmps.getD 32 undef, a4.tmps.getD 33 undef, a4.tmps.getD 34 undef, undef] hs4 hd4 (by
            intro t ht
            match t, ht with
            | 0, _ => exact Flow.old_at hold 0 (by kernel_rfl)
            | 1, _ => exact Flow.old_at hold 1 (by kernel_rfl)
            | 2, _ => exact Flow.old_at hold 2 (by kernel_rfl)
            | 3, _ => exact Flow.old_at hold 3 (by kernel_rfl)
            | 4, _ => exact Flow.old_at hold 4 (by kernel_rfl)
            | 5, _ => exact Flow.old_at hold 5 (by kernel_rfl)
            | 6, _ => exact Flow.old_at hold 6 (by kernel_rfl)
            | 7, _ => exact rfl
            | 8, _ => exact rfl
            | 9, _ => exact rfl
            | 10, _ => exact rfl
            | 11, _ => exact rfl
            | 12, _ => exact rfl
            | 13, _ => exact rfl
            | 14, _ => exact rfl
            | 15, _ => exact rfl
            | 16, _ => exact rfl
            | 17, _ => exact rfl
            | 18, _ => exact rfl
            | 19, _ => exact rfl
            | 20, _ => exact rfl
            | 21, _ => exact rfl
            | 22, _ => exact rfl
            | 23, _ => exact rfl
            | 24, _ => exact rfl
            | 25, _ => exact hg 12 _ 25 rfl rfl
            | 26, _ => exact rfl
            | 27, _ => exact rfl
            | 28, _ => exact rfl
            | 29, _ => exact rfl
            | 30, _ => exact rfl
            | 31, _ => exact rfl
            | 32, _ => exact rfl
            | 33, _ => exact rfl
            | 34, _ => exact rfl
            | 35, _ => exact Flow.old_at hold 35 (by kernel_rfl)
            | t + 36, ht => exact absurd ht (by simp))
          rw [ea]
          generalize a4.tmps.getD 7 undef = z7
          generalize a4.tmps.getD 8 undef = z8
          generalize a4.tmps.getD 9 undef = z9
          generalize a4.tmps.getD 10 undef = z10
          generalize a4.tmps.getD 11 undef = z11
          generalize a4.tmps.getD 12 undef = z12
          generalize a4.tmps.getD 13 undef = z13
          generalize a4.tmps.getD 14 undef = z14
          generalize a4.tmps.getD 15 undef = z15
          generalize a4.tmps.getD 16 undef = z16
          generalize a4.tmps.getD 17 undef = z17
          generalize a4.tmps.getD 18 undef = z18
          generalize a4.tmps.getD 19 undef = z19
          generalize a4.tmps.getD 20 undef = z20
          generalize a4.tmps.getD 21 undef = z21
          generalize a4.tmps.getD 22 undef = z22
          generalize a4.tmps.getD 23 undef = z23
          generalize a4.tmps.getD 24 undef = z24
          generalize a4.tmps.getD 26 undef = z26
          generalize a4.tmps.getD 27 undef = z27
          generalize a4.tmps.getD 28 undef = z28
          generalize a4.tmps.getD 29 undef = z29
          generalize a4.tmps.getD 30 undef = z30
          generalize a4.tmps.getD 31 undef = z31
          generalize a4.tmps.getD 32 undef = z32
          generalize a4.tmps.getD 33 undef = z33
          generalize a4.tmps.getD 34 undef = z34
          clear ea
          have X4 := Lib.hid (below_trans BL.out hw4 BL.out.size)
          have O4 := Lib.hid (Own.below OW.out hw4)
          clear hd4 hs4 hg hold hw4
          refine (‹∀ (a : Act) (w : World), Code.wp _ _ _ a w → _›) _ _ ?_
          go_wp2
          go_roundw
          case rel => exact ⟨k + 1, by omega, by go_num, by rw [HST.out, if_neg (by simp), ← HN1.out]; exact O4.out, X4.out⟩
          case measure => simp [intOf]; omega
    · have hkn : ¬ (k : Int) < nl := by omega
      have htk : L.take k = L := List.take_of_length_le (by rw [HL.out]; omega)
      rw [htk] at hown
      have O4 := Lib.hid hown
      clear htk hown hbel OW
      go_wp2
      go_ret
      exact ⟨⟨_, rfl, O4.out.lower B1.out.size⟩, below_trans B1.out BL.out B1.out.size⟩
end Go.Proofs.Ytbfnjfmnblafaaa.Qry
