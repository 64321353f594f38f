/- Entries in memory; query.fitting: what it hands on. -/
import Derived.Test.YtbfnjfmnblafaaaQ3
import Derived.RangeFuncNested
import Derived.RangeFuncBound
import Derived.RangeFuncCalls
import Derived.RangeFuncLeaves
import Derived.Shelf.RegionOpen
import Derived.WalkKit
import Derived.OwnWalkIn
import Derived.TacticsInMore
import Derived.LoopNIn
import Derived.LoopIn
import Derived.Maps.AppendAt
import Derived.Deep.MidRow
import Derived.Deep.WholeRow
import Derived.Laws.Rows
import Derived.Laws.Tables
namespace Go.Proofs.Ytbfnjfmnblafaaa.Qry
open Go.RowKit Go.Shelf

attribute [local go_sem] Oper.semAt_some

/-- The slice at A holds these entries. -/
structure Ents (w : World) (A : Option Addr) (n c : Nat) (l : List Ent) : Prop where
  len : l.length = n
  le : n ≤ c
  small : c ≤ 9223372036854775807
  nil : A = none → c = 0
  spot : ∀ ad, A = some ad → 0 < n → ∃ b o, ad = ⟨b, o, none⟩ ∧ ∀ j, (h : j < l.length) → At w b (o + j * 13) l[j].cells
  rows : ∀ e ∈ l, SRd w e.sA e.sn e.sc e.ss
theorem Ents.below {w w1 : World} {A : Option Addr} {n c : Nat} {l : List Ent} (h : Ents w A n c l) (hb : Below w.heap.size w w1) : Ents w1 A n c l :=
  ⟨h.len, h.le, h.small, h.nil, fun ad e h0 => by
    obtain ⟨b, o, e2, hc⟩ := h.spot ad e h0
    exact ⟨b, o, e2, fun j hj => (hc j hj).below hb⟩, fun e he => (h.rows e he).below hb⟩
theorem Ent.cells_length (e : Ent) : e.cells.length = 13 := rfl
theorem Ask.cells_length (a : Ask) : a.cells.length = 7 := rfl
theorem Item.cells_length (x : Item) : x.cells.length = 5 := rfl
theorem At.range {w : World} {b o : Nat} {cs : List Value} (h : At w b o cs) : w.rangeAt b o cs := by
  intro j v hv
  obtain ⟨hj, e⟩ := List.getElem?_eq_some_iff.1 hv
  rw [← e]
  exact h j hj
theorem ent_one (e : Ent) : ∀ v ∈ e.cells, v.oneCell' = true := by
  intro v hv
  simp [Ent.cells, Item.cells] at hv
  rcases hv with rfl | rfl | rfl | rfl | rfl | rfl | rfl | rfl | rfl | rfl | rfl | rfl | rfl <;> rfl
theorem ask_one (a : Ask) : ∀ v ∈ a.cells, v.oneCell' = true := by
  intro v hv
  simp [Ask.cells] at hv
  rcases hv with rfl | rfl | rfl | rfl | rfl | rfl | rfl <;> rfl
theorem item_one (x : Item) : ∀ v ∈ x.cells, v.oneCell' = true := by
  intro v hv
  simp [Item.cells] at hv
  rcases hv with rfl | rfl | rfl | rfl | rfl <;> rfl

/-- What fitting hands on, m having been handed on already. -/
def outs (a : Ask) : Nat → List Ent → List (Item × Bool)
  | _, [] => []
  | m, e :: l => if fits e a then (e.it, decide (a.limit < ((m + 1 : Nat) : Int))) :: (if a.limit < ((m + 1 : Nat) : Int) then [] else outs a (m + 1) l) else outs a m l
def encs (x : Item × Bool) : Array Value := #[.agg x.1.cells.toArray, .bool x.2]
/-- What a round keeps: what lay below n₀, and block Ba. -/
def Kept (n₀ Ba : Nat) (W W' : World) : Prop := Below n₀ W W' ∧ W'.heap[Ba]? = W.heap[Ba]?
theorem kept_t {n₀ Ba : Nat} {A B C : World} (h : Kept n₀ Ba A B) (k : Kept n₀ Ba B C) : Kept n₀ Ba A C := ⟨h.1.trans k.1, k.2.trans h.2⟩
theorem kept_b {n₀ Ba : Nat} {w : World} (hn : n₀ ≤ w.heap.size) (hBa : Ba < w.heap.size) (W : World) (l : Nat) (o o' : Obj) (hl : w.heap.size ≤ l) (h : W.heap[l]? = some o) (h1 : o.isCells = false) (h2 : o.isWalk = false) : Kept n₀ Ba W (W.putObj l o') :=
  ⟨belowK_b hn W l o o' hl h h1 h2, World.putObj_heap_other (by omega)⟩

theorem wpListIn_load_mid {F : Fence} {n : Nat} {P : Program} {ops : Array Oper} {rest : List Oper} {op : Oper} {a : Act} {w : World} {Q : Exit → Act → World → Prop} (hgd : op.guard = none) (ty : TypeId) (x : Operand) (ho : op.op = .load ty x)
    (b o : Nat) (hx : a.eval x = .pointer (some ⟨b, o, none⟩)) (cs : List Value) (d : TypeDesc) (hc : w.rangeAt b o cs)
    (hu : P.underlying ty = some d) (hd : d.isRow = true) (hi : (P.info? ty).map (·.size) = some cs.length)
    (h : wpListIn F n P ops Q rest (a.put op.dst (.agg cs.toArray)) w) : wpListIn F n P ops Q (op :: rest) a w := by
  refine wpListIn_plain hgd fun K hK => ⟨fun f hf => by simp [Oper.about, ho] at hf, ?_⟩
  rw [Oper.semAt_plain F _ _ (fun c h => by rw [ho] at h; cases h)]
  unfold execOp
  simp only [ho, hx, Instr.loadAt, Instr.sureAddr, Sem.run_bind, Sem.run_pure, Result.andThen_ok, run_loadVar_mid w b o ty cs d hc hu hd hi]
  exact hK _ _ h
theorem wpListIn_store_row {F : Fence} {n : Nat} {P : Program} {ops : Array Oper} {rest : List Oper} {o : Oper} {a : Act} {w : World} {Q : Exit → Act → World → Prop} (hgd : o.guard = none) (ty : TypeId) (x y : Operand) (ho : o.op = .store ty x y)
    (g : Nat) (cells : Array Value) (hx : a.eval x = .pointer (some ⟨g, 0, none⟩)) (hy : a.eval y = .agg cells)
    (t : TypeId) (old : Array Value) (hg : w.heap[g]? = some (.cells old t (0, 0))) (hi : (P.info? ty).map (·.size) = some cells.size)
    (hold : old.size = cells.size) (h1 : cells.all (·.oneCell') = true)
    (h : wpListIn F n P ops Q rest (a.put o.dst undef) (w.setRow g cells)) : wpListIn F n P ops Q (o :: rest) a w := by
  refine wpListIn_plain hgd fun K hK => ⟨fun f hf => by simp [Oper.about, ho] at hf, ?_⟩
  rw [Oper.semAt_plain F _ _ (fun c h => by rw [ho] at h; cases h)]
  unfold execOp
  simp only [ho, hx, hy, Instr.storeAt, Instr.sureAddr, Sem.run_bind, Sem.run_pure, Result.andThen_ok, run_storeVar_row w g t ty old cells hg hi hold h1]
  exact hK _ _ h
theorem fitting_any (A : Option Addr) (n c : Nat) (X : Array Value) (w : World) :
    Calls Try.prog 20 #[.slice A n c, .agg X] w fun e w' => e = .returned (.func (.func 31) #[] #[.pointer (some ⟨w.heap.size, 0, none⟩), .pointer (some ⟨w.heap.size + 1, 0, none⟩)]) ∧ w' = (w.alloc (.cells #[.slice A n c] 22)).alloc (.cells X 31) := by
  go_enter Try.func20, Try.ntmps20
  go_wp2
  go_ret
  exact ⟨rfl, rfl⟩
def StopPost (xs : List (Item × Bool)) (J Jx : List (Item × Bool) → World → Prop) (e : Ending) (W' : World) : Prop :=
  (∃ v, e = .returned v) ∧ ((∃ ys, ys = xs ∧ J ys W') ∨ (∃ pre, pre <+: xs ∧ Jx pre W'))
set_option maxRecDepth 100000 in
set_option maxHeartbeats 4000000 in
theorem fitting1_in (n : Nat) (hn : 1 ≤ n) (l Bl Ba n₀ : Nat) (A : Option Addr) (nl cl : Nat) (L : List Ent) (a : Ask) (w0 : World) (hE : Ents w0 A nl cl L) (hn₀ : n₀ = w0.heap.size) (J Jx : List (Item × Bool) → World → Prop)
    (hY : ∀ pre x W, J pre W → pre.length < nl + 1 → YieldAt Fence.wide (n - 1) Try.prog l (encs x) W fun e W' =>
      (e = .returned (.bool true) ∧ J (pre ++ [x]) W' ∧ Kept n₀ Ba W W') ∨ (e = .returned (.bool false) ∧ Jx (pre ++ [x]) W'))
    (W : World) (hW0 : Below n₀ w0 W) (hBl : W.cell? ⟨Bl, 0, none⟩ = some (.slice A nl cl)) (hBa : At W Ba 0 a.cells) (h0 : J [] W) (hJ : ∀ pre W1 W2, J pre W1 → Below W1.heap.size W1 W2 → J pre W2) :
    CallsIn Fence.wide n Try.prog 31 #[.func (.yield l) #[] #[], .pointer (some ⟨Bl, 0, none⟩), .pointer (some ⟨Ba, 0, none⟩)] W (StopPost (outs a 0 L) J Jx) := by
  have hEl := hE.le
  have hEs := hE.small
  have HE := Lib.hid hE
  have HL := Lib.hid hE.len
  have HN := Lib.hid hn₀
  have HY := Lib.hid hY
  have HW0 := Lib.hid hW0
  have HA := Lib.hid hBa
  have HJ := Lib.hid hJ
  clear hE hn₀ hY hW0 hBa hJ
  refine callsIn_of_wp Try.func31 rfl trivial ?_ rfl
  simp only [Try.ntmps31, List.size_toArray, List.length_cons, List.length_nil, Nat.reduceAdd, Nat.reduceSub, Array.replicate_succ, Array.replicate_zero, List.push_toArray, List.append_toArray, List.nil_append, List.cons_append]
  gi_wp2
  gi_loopw [4, 9] (fun cnt i wr => ∃ k m : Nat, ∃ pre, k ≤ nl ∧ m ≤ k ∧ i = .int .i64 k ∧ cnt = .int .i64 m ∧ pre.length ≤ k ∧ outs a 0 L = pre ++ outs a m (L.drop k) ∧ J pre wr ∧ Below n₀ w0 wr ∧ At wr Ba 0 a.cells)
    (fun _ i _ => nl - (intOf i).toNat)
  case atStart => exact ⟨0, 0, [], Nat.zero_le _, Nat.le_refl _, rfl, rfl, Nat.le_refl _, rfl, h0, HW0.out, HA.out⟩
  case round =>
    obtain ⟨k, m, pre, hk, hmk, rfl, rfl, hpl, hout, hJs, hbel, hat⟩ := hrel
    by_cases hlt : k < nl
    · have hkL : k < L.length := by rw [HL.out]; exact hlt
      have hkn : (k : Int) < nl := by omega
      have hEw := HE.out.below (by rw [← HN.out]; exact hbel)
      obtain ⟨ad, hAd⟩ : ∃ ad, A = some ad := by
        cases A with
        | none => have := HE.out.nil rfl; omega
        | some ad => exact ⟨ad, rfl⟩
      obtain ⟨b, o, rfl, hcells⟩ := hEw.spot ad hAd (by omega)
      subst hAd
      obtain ⟨e, he⟩ : ∃ e, e = L[k] := ⟨_, rfl⟩
      have hatE := hcells k hkL
      rw [← he] at hatE
      have hrow := hEw.rows e (by rw [he]; exact List.getElem_mem hkL)
      obtain ⟨X, hX⟩ : ∃ X, X = e.cells.toArray := ⟨_, rfl⟩
      have HX13 := Lib.hid (show X.size = 13 by rw [hX]; rfl)
      have HXi := Lib.hid (show (Try.prog.info? 29).map (·.size) = some X.size by rw [hX]; kernel_rfl)
      have HX1 := Lib.hid (show X.all (·.oneCell') = true by rw [hX, List.all_toArray, List.all_eq_true]; exact ent_one e)
      have HRG := Lib.hid hatE.range
      have HCi := Lib.hid (show (Try.prog.info? 29).map (·.size) = some e.cells.length by rw [Ent.cells_length]; kernel_rfl)
      have JS := Lib.hid hJs
      have BE := Lib.hid hbel
      have AT := Lib.hid hat
      have OUT := Lib.hid hout
      have HX := Lib.hid hX
      have HR := Lib.hid hrow
      have HEE := Lib.hid he
      clear hJs hbel hat hout hX hrow he hcells hatE hEw
      have HAi := Lib.hid (show (Try.prog.info? 31).map (·.size) = some a.cells.length by rw [Ask.cells_length]; kernel_rfl)
      obtain ⟨Y, hY⟩ : ∃ Y, Y = a.cells.toArray := ⟨_, rfl⟩
      have HYY := Lib.hid hY
      clear hY
      gi_wp2_with (first | (refine wpListIn_load_mid rfl 29 (.tmp 11) rfl b (o + k * 13) rfl e.cells _ HRG.out Try.underlying29 rfl HCi.out ?_; rw [← HX.out]) | (refine wpListIn_store_row rfl 29 (.tmp 6) (.tmp 12) rfl wr.heap.size X rfl rfl 29 _ (heap_alloc_new _ _) HXi.out (by rw [HX13.out]; rfl) HX1.out ?_; rw [World.setRow_alloc_new]; obtain ⟨W2, hW2⟩ : ∃ W2, W2 = wr.alloc (.cells X 29) := ⟨_, rfl⟩; rw [← hW2]; have HW2 := Lib.hid hW2; have HB2 := Lib.hid (show Below wr.heap.size wr W2 by rw [hW2]; exact (Below.refl _ _).alloc (Nat.le_refl _) _); have HA2 := Lib.hid (AT.out.below HB2.out); have HE2 := Lib.hid (show At W2 wr.heap.size 0 e.cells by rw [hW2, HX.out]; exact at_alloc 29); clear hW2) | (refine wpListIn_load_mid rfl 29 (.tmp 6) rfl wr.heap.size 0 rfl e.cells _ HE2.out.range Try.underlying29 rfl HCi.out ?_; rw [← HX.out]) | (refine wpListIn_load_mid rfl 31 (.tmp 2) rfl Ba 0 rfl a.cells _ HA2.out.range Try.underlying31 rfl HAi.out ?_; rw [← HYY.out]))
      have hf := fits_any e a W2 (HR.out.below HB2.out)
      rw [← HX.out, ← HYY.out] at hf
      refine ⟨trivial, callsIn_wide.2 (hf.mono ?_)⟩
      clear hf
      rintro r W3 ⟨rfl, hb3⟩
      have HB3 := Lib.hid (below_trans HB2.out hb3 HB2.out.size)
      have HA3 := Lib.hid (HA2.out.below hb3)
      have HE3 := Lib.hid (HE2.out.below hb3)
      have HJ3 := Lib.hid (HJ.out pre wr W3 JS.out HB3.out)
      have HW3 := Lib.hid (show Below n₀ w0 W3 from BE.out.trans (HB3.out.mono (by rw [HN.out]; exact BE.out.size)))
      clear hb3
      have hdrop : L.drop k = e :: L.drop (k + 1) := by rw [HEE.out]; exact List.drop_eq_getElem_cons hkL
      have hout2 := OUT.out
      rw [hdrop] at hout2
      obtain ⟨t, ht⟩ : ∃ t, t = fits e a := ⟨_, rfl⟩
      rw [← ht]
      cases t with
      | false =>
        have hout3 : outs a 0 L = pre ++ outs a m (L.drop (k + 1)) := by rw [hout2]; simp only [outs]; rw [← ht]; rfl
        have OUT3 := Lib.hid hout3
        clear hout2 hout3 ht hdrop
        gi_wp2
        go_roundw
        case rel => exact ⟨k + 1, m, pre, by omega, by omega, by go_num, rfl, by omega, OUT3.out, HJ3.out, HW3.out, HA3.out⟩
        case measure => simp [intOf]; omega
      | true =>
        have hout3 : outs a 0 L = pre ++ ((e.it, decide (a.limit < ((m + 1 : Nat) : Int))) :: (if a.limit < ((m + 1 : Nat) : Int) then [] else outs a (m + 1) (L.drop (k + 1)))) := by
          rw [hout2]; simp only [outs]; rw [← ht, if_pos rfl]
        have OUT3 := Lib.hid hout3
        clear hout2 hout3 ht hdrop
        have hlim : W3.cell? ⟨Ba, 6, none⟩ = some (.int .i64 a.limit) := HA3.out 6 (by rw [Ask.cells_length]; decide)
        have hatI : At W3 wr.heap.size 0 e.it.cells := fun j hj => by
          have h5 : j < 5 := hj
          have := HE3.out j (by rw [Ent.cells_length]; omega)
          rw [this]
          congr 1
          exact List.getElem_append_left hj
        have HI3 := Lib.hid hatI.range
        have HIi := Lib.hid (show (Try.prog.info? 24).map (·.size) = some e.it.cells.length by rw [Item.cells_length]; kernel_rfl)
        obtain ⟨z, hz⟩ : ∃ z, z = decide (a.limit < (m : Int) + 1) := ⟨_, rfl⟩
        have hz1 := hz.symm
        have HZ : Hid (decide (a.limit < ((m + 1 : Nat) : Int)) = z) := Lib.hid (by rw [hz]; exact decide_eq_decide.2 (by omega))
        obtain ⟨fn, tmps, assign, body, hy, hR⟩ := HY.out pre (e.it, z) W3 HJ3.out (by omega)
        obtain ⟨IX, hIX⟩ : ∃ IX, IX = e.it.cells.toArray := ⟨_, rfl⟩
        have HIX := Lib.hid hIX
        dsimp only [encs] at hy
        rw [← hIX] at hy
        have HRR := Lib.hid hR
        clear hz hR hIX hatI
        gi_wp2_with (refine wpListIn_load_mid rfl 24 (.tmp 20) rfl wr.heap.size 0 rfl e.it.cells _ HI3.out Try.underlying24 rfl HIi.out ?_; rw [← HIX.out])
        refine HRR.out.mono ?_
        rintro r W4 (⟨rfl, hj4, hk4⟩ | ⟨rfl, hj4⟩)
        · have hba : ∀ j, W4.cell? ⟨Ba, j, none⟩ = W3.cell? ⟨Ba, j, none⟩ := fun j => World.cell?_of_block hk4.2
          have hlim4 : W4.cell? ⟨Ba, 6, none⟩ = some (.int .i64 a.limit) := (hba 6).trans hlim
          have HJ4 := Lib.hid hj4
          have HW4 := Lib.hid (HW3.out.trans hk4.1)
          have HA4 : Hid (At W4 Ba 0 a.cells) := Lib.hid (fun j hj => (hba _).trans (HA3.out j hj))
          clear hba hj4 hk4 hlim hy
          cases z with
          | true =>
            have hfin : outs a 0 L = pre ++ [(e.it, true)] := by
              rw [OUT3.out, HZ.out, if_pos (of_decide_eq_true HZ.out)]
            have HF := Lib.hid hfin
            clear hfin
            gi_wp2
            refine bodyPost_ret (results_none rfl _ _ _) rfl ?_
            exact ⟨⟨_, rfl⟩, .inl ⟨_, HF.out.symm, HJ4.out⟩⟩
          | false =>
            have hfin : outs a 0 L = (pre ++ [(e.it, false)]) ++ outs a (m + 1) (L.drop (k + 1)) := by
              rw [OUT3.out, HZ.out, if_neg (of_decide_eq_false HZ.out), List.append_assoc]
              rfl
            have HF := Lib.hid hfin
            clear hfin
            gi_wp2
            go_roundw
            case rel => exact ⟨k + 1, m + 1, pre ++ [(e.it, false)], by omega, by omega, by go_num, by go_num, by simp; omega, HF.out, HJ4.out, HW4.out, HA4.out⟩
            case measure => simp [intOf]; omega
        · have HJ4 := Lib.hid hj4
          have hpre : (pre ++ [(e.it, z)]) <+: outs a 0 L := by
            rw [OUT3.out, HZ.out]
            exact ⟨_, by rw [List.append_assoc]; rfl⟩
          have HP := Lib.hid hpre
          clear hj4 hpre hy
          gi_wp2
          refine bodyPost_ret (results_none rfl _ _ _) rfl ?_
          exact ⟨⟨_, rfl⟩, .inr ⟨_, HP.out, HJ4.out⟩⟩
    · have hkk : k = nl := by omega
      have hkn : ¬ (k : Int) < nl := by omega
      have hfin : outs a 0 L = pre := by rw [hout, List.drop_of_length_le (by rw [HL.out]; omega)]; simp [outs]
      have HF := Lib.hid hfin
      clear hfin hout
      gi_wp2
      go_end0
      exact ⟨⟨_, rfl⟩, .inl ⟨pre, HF.out.symm, hJs⟩⟩
end Go.Proofs.Ytbfnjfmnblafaaa.Qry
