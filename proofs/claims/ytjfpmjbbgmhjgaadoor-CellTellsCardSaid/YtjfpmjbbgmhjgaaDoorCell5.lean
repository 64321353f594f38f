/- (*sector).sum -/
import Derived.Test.YtjfpmjbbgmhjgaaDoorCell4
import Derived.Test.YtjfpmjbbgmhjgaaDoorCell3
namespace Go.Proofs.YtjfpmjbbgmhjgaaDoor.Crc
open Go.RowKit CrcMath

/-- The number's low 32 bits. -/
def lo (q : Int) : BitVec 32 := BitVec.ofInt 32 q
theorem N_lo (q : Int) : N (lo q) = q % 4294967296 := by
  unfold N lo
  rw [BitVec.toNat_ofInt]
  omega
/-- What stands ahead of a sector's bytes, where they are summed. -/
def hd (q p : Int) : List Int := le (lo q) ++ [p % 256]
theorem quad_all1 (x : BitVec 32) : ((le x).map (Value.int .u8)).toArray.all (·.oneCell') = true := by
  simp only [List.all_toArray, List.all_map, List.all_eq_true]
  intro i _
  rfl
theorem Flow.step_to {P : Program} {o : Oper} {a : Act} {w w' : World} {post : Value → World → Prop} {v : Value} (h : (execOp a.eval o).run P w = .ok (.value v) w') (hp : post v w') : Flow.step P o a w post := by
  unfold Flow.step; rw [h]; exact hp
theorem Flow.getD_q {xs : Array Value} {t : Nat} {v : Value} (h : xs.getD t undef = v) : xs[t]?.getD undef = v := by
  rw [← Array.getD_eq_getD_getElem?]; exact h
theorem heap_lt {w : World} {b : Nat} {x : Obj} (h : w.heap[b]? = some x) : b < w.heap.size := (Array.getElem?_eq_some_iff.1 h).1
theorem sum_bytes {x : BitVec 32} {p : Int} {l : List Int} (h : Bytes l) : Bytes (le x ++ [p % 256] ++ l) := by
  intro z hz
  rcases List.mem_append.1 hz with h1 | h1
  · rcases List.mem_append.1 h1 with h2 | h2
    · exact le_bytes x z h2
    · obtain rfl := List.mem_singleton.1 h2
      omega
  · exact h z h1
def G17 (s b7 : Nat) (p : Int) (x : BitVec 32) (l : List Int) : Nat → Value → World → Prop
  | 0 => fun v _ => v = .slice (some ⟨b7, 0, none⟩) 4 4
  | 1 => fun v _ => v = .int .i64 p
  | 2 => fun v _ => v = .int .u8 (p % 256)
  | 3 => fun v w => ∃ A c, v = .slice A 1 c ∧ Rd w .u8 A 1 c [p % 256]
  | 4 => fun v _ => v = .pointer (some ⟨s, 0, none⟩)
  | 5 => fun v _ => v = .pointer (some ⟨s, 0, none⟩)
  | 6 => fun v _ => v = .slice (some ⟨s, 0, none⟩) 60 64
  | 7 => fun v w => ∃ g A c, v = .slice (some ⟨g, 0, none⟩) 3 3 ∧ Three w g (some ⟨b7, 0, none⟩) 4 4 (le x) A 1 c [p % 256] (some ⟨s, 0, none⟩) 60 64 l
  | 8 => fun v w => ∃ A c, v = .slice A 65 c ∧ Rd w .u8 A 65 c (le x ++ [p % 256] ++ l)
  | 9 => fun v _ => v = .int .u32 (N (more 0#32 (le x ++ [p % 256] ++ l)))
  | 10 => fun v _ => v = .agg ((le (more 0#32 (le x ++ [p % 256] ++ l))).map (Value.int .u8)).toArray
  | _ => fun _ _ => True
theorem G17_stable (s b7 : Nat) (p : Int) (x : BitVec 32) (l : List Int) : ∀ i v w w', G17 s b7 p x l i v w → Below w.heap.size w w' → G17 s b7 p x l i v w' := by
  intro i v w w' h hb
  match i, h with
  | 0, h => exact h
  | 1, h => exact h
  | 2, h => exact h
  | 3, h => exact (by obtain ⟨A, c, e, hr⟩ := h; exact ⟨A, c, e, hr.below hb⟩)
  | 4, h => exact h
  | 5, h => exact h
  | 6, h => exact h
  | 7, h => exact (by obtain ⟨g, A, c, e, hr⟩ := h; exact ⟨g, A, c, e, hr.below hb⟩)
  | 8, h => exact (by obtain ⟨A, c, e, hr⟩ := h; exact ⟨A, c, e, hr.below hb⟩)
  | 9, h => exact h
  | 10, h => exact h
  | _ + 11, _ => exact trivial
set_option maxHeartbeats 2000000 in
set_option maxRecDepth 100000 in
theorem sum_any (s : Nat) (q p : Int) (l : List Int) (w : World) (hr : Rd w .u8 (some ⟨s, 0, none⟩) 60 64 l) (hb : Bytes l) :
    Calls Tryd.prog 17 #[.pointer (some ⟨s, 0, none⟩), .int .i64 q, .int .i64 p] w fun e w' => e = .returned (.agg ((le (more 0#32 (hd q p ++ l))).map (Value.int .u8)).toArray) ∧ Below w.heap.size w w' := by
  have R := Lib.hid hr
  have Y := Lib.hid hb
  clear hr hb
  obtain ⟨x, hx⟩ : ∃ x, x = lo q := ⟨_, rfl⟩
  have hq : IntKind.u32.wrap q = N x := by rw [hx, N_lo]; rfl
  have hq2 : q % 4294967296 = N x := by rw [hx, N_lo]
  have HX := Lib.hid hx
  clear hx
  obtain ⟨C, hC⟩ : ∃ C, C = ((le x).map (Value.int .u8)).toArray := ⟨_, rfl⟩
  have hi : (Tryd.prog.info? 38).map (·.size) = some C.size := by rw [hC]; kernel_rfl
  have h1 : C.all (·.oneCell') = true := by rw [hC]; exact quad_all1 x
  have hf : ∀ w : World, Calls Tryd.prog 22 #[.int .u32 (N x)] w fun e w' => e = .returned (.agg C) ∧ Below w.heap.size w w' := by rw [hC]; exact four_any x
  have h4 : C.size = 4 := by rw [hC]; simp [le_length]
  have HC := Lib.hid hC
  have HI := Lib.hid hi
  have H1 := Lib.hid h1
  have HF := Lib.hid hf
  have H4 := Lib.hid h4
  clear hC hi h1 hf h4
  go_enter Tryd.func17, Tryd.ntmps17
  go_wp2_with fail
  refine (HF.out _).mono ?_
  rintro e w1 ⟨rfl, hb1⟩
  go_wp2_with (refine wpList_store_row rfl 38 (.tmp 7) (.tmp 10) rfl w1.heap.size C rfl rfl 38 _ (heap_alloc_new _ _) HI.out (by rw [H4.out]; rfl) H1.out ?_; rw [World.setRow_alloc_new]; obtain ⟨W, hW⟩ : ∃ W, W = w1.alloc (.cells C 38) := ⟨_, rfl⟩; rw [← hW]; have HW := Lib.hid hW; clear hW)
  obtain ⟨b7, hb7⟩ : ∃ b, b = w1.heap.size := ⟨_, rfl⟩
  have hbs : w.heap.size + 1 ≤ w1.heap.size := by have := hb1.size; simpa using this
  have hbW1 : Below w.heap.size w w1 := below_trans ((Below.refl _ _).alloc (Nat.le_refl _) _) hb1 (by simp)
  have hbW : Below w.heap.size w W := by rw [HW.out]; exact hbW1.alloc hbW1.size _
  have h6 : W.heap[w.heap.size]? = some (.cells (Array.replicate 4 (Value.int .u8 0)) 38 (0, 0)) := by
    have e1 := hb1.block w.heap.size (by simp)
    have e2 : (w1.alloc (.cells C 38)).heap[w.heap.size]? = w1.heap[w.heap.size]? := heap_alloc_old _ _ (by omega)
    rw [HW.out, e2, e1]
    exact heap_alloc_new _ _
  have RS := Lib.hid (R.out.below hbW)
  have R7 : Hid (Rd W .u8 (some ⟨b7, 0, none⟩) 4 4 (le x)) := Lib.hid (by
    rw [HW.out, HC.out, hb7]
    have := Rd.lit w1 .u8 38 (le x) (by rw [le_length]; decide)
    rw [le_length] at this
    exact this)
  have YY := Lib.hid (sum_bytes (x := x) (p := p) Y.out)
  have BW := Lib.hid hbW
  have G6 := Lib.hid h6
  have H7 := Lib.hid hb7
  rw [← hb7]
  clear hb7 hbs hbW1 hbW h6 hb1
  refine Flow.wp_region_tail (m := 11) (by kernel_rfl) (G17 s b7 p x l) (by kernel_rfl) rfl (G17_stable s b7 p x l) ?loc ?fin
  case loc =>
    intro i o hi ho a w hw hk
    match i, hi, ho with
    | 0, _, ho =>
      have ho2 := Option.some.inj ho; clear ho; subst ho2
      have r7 : a.tmps.getD 7 undef = .pointer (some ⟨b7, 0, none⟩) := (hk 7 (Flow.mem_looks (by kernel_rfl))).before (by kernel_rfl)
      rw [if_pos (Flow.wanted_free rfl _)]
      refine Flow.step_value (v := .slice (some ⟨b7, 0, none⟩) 4 4) ?_ ⟨Below.refl _ _, rfl⟩
      simp [execOp, Act.eval, r7, go_sem]
    | 1, _, ho =>
      have ho2 := Option.some.inj ho; clear ho; subst ho2
      have r2 : a.tmps.getD 2 undef = .int .i64 p := (hk 2 (Flow.mem_looks (by kernel_rfl))).before (by kernel_rfl)
      rw [if_pos (Flow.wanted_free rfl _)]
      refine Flow.step_value (v := .int .i64 p) ?_ ⟨Below.refl _ _, rfl⟩
      simp [execOp, Act.eval, r2, go_sem]
    | 2, _, ho =>
      have ho2 := Option.some.inj ho; clear ho; subst ho2
      have r12 : a.tmps.getD 12 undef = .int .i64 p := (hk 12 (Flow.mem_looks (by kernel_rfl))).by_ 1 (by kernel_rfl) (by decide)
      rw [if_pos (Flow.wanted_free rfl _)]
      have hp8 : IntKind.u8.wrap p = p % 256 := rfl
      refine Flow.step_value (v := .int .u8 (p % 256)) ?_ ⟨Below.refl _ _, rfl⟩
      simp [execOp, Act.eval, r12, go_sem, hp8]
    | 3, _, ho =>
      have ho2 := Option.some.inj ho; clear ho; subst ho2
      have r13 : a.tmps.getD 13 undef = .int .u8 (p % 256) := (hk 13 (Flow.mem_looks (by kernel_rfl))).by_ 2 (by kernel_rfl) (by decide)
      rw [if_pos (Flow.wanted_free rfl _)]
      refine Flow.step_to (v := .slice (some ⟨w.heap.size, 0, none⟩) 1 1) (w' := w.alloc (.cells #[.int .u8 (p % 256)] 5)) ?_ ⟨(Below.refl _ _).alloc (Nat.le_refl _) _, some ⟨w.heap.size, 0, none⟩, 1, rfl, Rd.one w .u8 5 _⟩
      have r13b := Flow.getD_q r13
      simp [execOp, Act.eval, r13b, go_sem]
    | 4, _, ho =>
      have ho2 := Option.some.inj ho; clear ho; subst ho2
      have r0 : a.tmps.getD 0 undef = .pointer (some ⟨s, 0, none⟩) := (hk 0 (Flow.mem_looks (by kernel_rfl))).before (by kernel_rfl)
      rw [if_pos (Flow.wanted_free rfl _)]
      refine Flow.step_value (v := .pointer (some ⟨s, 0, none⟩)) ?_ ⟨Below.refl _ _, rfl⟩
      simp [execOp, Act.eval, r0, go_sem]
    | 5, _, ho =>
      have ho2 := Option.some.inj ho; clear ho; subst ho2
      have r15 : a.tmps.getD 15 undef = .pointer (some ⟨s, 0, none⟩) := (hk 15 (Flow.mem_looks (by kernel_rfl))).by_ 4 (by kernel_rfl) (by decide)
      rw [if_pos (Flow.wanted_free rfl _)]
      refine Flow.step_value (v := .pointer (some ⟨s, 0, none⟩)) ?_ ⟨Below.refl _ _, rfl⟩
      simp [execOp, Act.eval, r15, go_sem]
    | 6, _, ho =>
      have ho2 := Option.some.inj ho; clear ho; subst ho2
      have r16 : a.tmps.getD 16 undef = .pointer (some ⟨s, 0, none⟩) := (hk 16 (Flow.mem_looks (by kernel_rfl))).by_ 5 (by kernel_rfl) (by decide)
      rw [if_pos (Flow.wanted_free rfl _)]
      refine Flow.step_value (v := .slice (some ⟨s, 0, none⟩) 60 64) ?_ ⟨Below.refl _ _, rfl⟩
      simp [execOp, Act.eval, r16, go_sem]
    | 7, _, ho =>
      have ho2 := Option.some.inj ho; clear ho; subst ho2
      have r11 : a.tmps.getD 11 undef = .slice (some ⟨b7, 0, none⟩) 4 4 := (hk 11 (Flow.mem_looks (by kernel_rfl))).by_ 0 (by kernel_rfl) (by decide)
      have r14 := (hk 14 (Flow.mem_looks (by kernel_rfl))).by_ 3 (by kernel_rfl) (by decide)
      have r17 : a.tmps.getD 17 undef = .slice (some ⟨s, 0, none⟩) 60 64 := (hk 17 (Flow.mem_looks (by kernel_rfl))).by_ 6 (by kernel_rfl) (by decide)
      rw [if_pos (Flow.wanted_free rfl _)]
      obtain ⟨A, c, e1, hr1⟩ := r14
      refine Flow.step_to (v := .slice (some ⟨w.heap.size, 0, none⟩) 3 3) (w' := w.alloc (.cells #[.slice (some ⟨b7, 0, none⟩) 4 4, .slice A 1 c, .slice (some ⟨s, 0, none⟩) 60 64] 22)) ?_ ⟨(Below.refl _ _).alloc (Nat.le_refl _) _, w.heap.size, A, c, rfl, ?_⟩
      · have r11b := Flow.getD_q r11
        have e1b := Flow.getD_q e1
        have r17b := Flow.getD_q r17
        simp [execOp, Act.eval, r11b, e1b, r17b, go_sem]
      · have hbb : Below w.heap.size w (w.alloc (.cells #[.slice (some ⟨b7, 0, none⟩) 4 4, .slice A 1 c, .slice (some ⟨s, 0, none⟩) 60 64] 22)) := (Below.refl _ _).alloc (Nat.le_refl _) _
        exact ⟨by simp, by simp, by simp, (R7.out.below hw).below hbb, hr1.below hbb, (RS.out.below hw).below hbb⟩
    | 8, _, ho =>
      have ho2 := Option.some.inj ho; clear ho; subst ho2
      have r18 := (hk 18 (Flow.mem_looks (by kernel_rfl))).by_ 7 (by kernel_rfl) (by decide)
      rw [if_pos (Flow.wanted_free rfl _)]
      obtain ⟨g, A, c, e1, h3⟩ := r18
      refine Flow.step_call (f := 24) (args := #[.slice (some ⟨g, 0, none⟩) 3 3]) (by simp [execOp, Act.eval, e1, go_sem]) ?_
      refine (concat_any g _ 4 4 (le x) A 1 c [p % 256] _ 60 64 l _ h3 (by omega) (by omega) (by omega) (by omega)).mono ?_
      rintro e w1 ⟨⟨v, rfl, ho⟩, hb1⟩
      obtain ⟨A2, c2, rfl, hr2, _⟩ := ho.rd
      exact ⟨_, rfl, hb1, A2, c2, rfl, hr2⟩
    | 9, _, ho =>
      have ho2 := Option.some.inj ho; clear ho; subst ho2
      have r19 := (hk 19 (Flow.mem_looks (by kernel_rfl))).by_ 8 (by kernel_rfl) (by decide)
      rw [if_pos (Flow.wanted_free rfl _)]
      obtain ⟨A, c, e1, hr1⟩ := r19
      refine Flow.step_call (f := 23) (args := #[.slice A 65 c]) (by simp [execOp, Act.eval, e1, go_sem]) ?_
      refine (of_any A 65 c _ _ hr1 YY.out).mono ?_
      rintro e w1 ⟨rfl, hb1⟩
      exact ⟨_, rfl, hb1, rfl⟩
    | 10, _, ho =>
      have ho2 := Option.some.inj ho; clear ho; subst ho2
      have r20 : a.tmps.getD 20 undef = .int .u32 (N (more 0#32 (le x ++ [p % 256] ++ l))) := (hk 20 (Flow.mem_looks (by kernel_rfl))).by_ 9 (by kernel_rfl) (by decide)
      rw [if_pos (Flow.wanted_free rfl _)]
      refine Flow.step_call (f := 22) (args := #[.int .u32 (N (more 0#32 (le x ++ [p % 256] ++ l)))]) (by simp [execOp, Act.eval, r20, go_sem]) ?_
      refine (four_any _ _).mono ?_
      rintro e w1 ⟨rfl, hb1⟩
      exact ⟨_, rfl, hb1, rfl⟩
    | _ + 11, hi, _ => exact absurd hi (by omega)
  case fin =>
    intro a w4 hw4 hd4 hs4 hg hold
    have r21 := hg 10 _ 21 (by decide) rfl rfl
    have r6 : a.tmps.getD 6 undef = .pointer (some ⟨w.heap.size, 0, none⟩) := Flow.old_at hold 6 (by kernel_rfl)
    have e21 := HX.out
    obtain ⟨D, hD⟩ : ∃ D, D = ((le (more 0#32 (le x ++ [p % 256] ++ l))).map (Value.int .u8)).toArray := ⟨_, rfl⟩
    have hD4 : D.size = 4 := by rw [hD]; simp [le_length]
    have hD1 : D.all (·.oneCell') = true := by rw [hD]; exact quad_all1 _
    have hDi : (Tryd.prog.info? 38).map (·.size) = some D.size := by rw [hD4]; kernel_rfl
    have h6 : w4.heap[w.heap.size]? = some (.cells (Array.replicate 4 (Value.int .u8 0)) 38 (0, 0)) := by
      rw [hw4.block _ (heap_lt G6.out)]; exact G6.out
    have r21b : a.eval (.tmp 21) = .agg D := by rw [hD]; exact r21
    refine wpList_store_row rfl 38 (.tmp 6) (.tmp 21) rfl w.heap.size D r6 r21b 38 _ h6 hDi (by rw [hD4]; rfl) hD1 ?_
    refine wpList_nil ?_
    refine (‹∀ (a : Act) (w : World), Code.wp _ Code.ret _ a w → _›) _ _ ?_
    refine wp_ret ?_
    refine bodyPost_ret (results_cell_row (fn := Tryd.f17) (p := 6) (ty := 38) rfl _ _ w.heap.size 38 D (0, 0) _ r6 (setRow_heap _ _ _ _ _ _ h6) Tryd.underlying38 rfl hDi) hd4 ?_
    refine ⟨?_, ?_⟩
    · rw [hD, hd, ← HX.out]
    · exact (below_trans BW.out hw4 BW.out.size).trans ⟨rfl, rfl, rfl, Nat.le_of_eq (setRow_size _ _ _).symm, fun i hi => setRow_other _ _ _ _ (Nat.ne_of_lt hi)⟩
end Go.Proofs.YtjfpmjbbgmhjgaaDoor.Crc
