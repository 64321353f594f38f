/- query.Run -/
import Derived.Test.YtbfnjfmnblafaaaQ4
namespace Go.Proofs.Ytbfnjfmnblafaaa.Qry
open Go.RowKit Go.Shelf

attribute [local go_sem] Oper.semAt_some

theorem abides_below {β : Type} {B : Nat} {J : β → World → Prop} (h : AbidesFrom B J) (s : β) (W1 W2 : World) (hj : J s W1) (hb : Below W1.heap.size W1 W2) : J s W2 :=
  h s W1 W2 none hj ⟨hb.os, hb.tape, hb.output, hb.size, fun k hk _ => hb.block k hk⟩ (fun r e => by cases e)
/-- fitting's value keeps the contract of an iterator. -/
theorem fitting_stops (n : Nat) (hn : 1 ≤ n) (Bl Ba n₀ : Nat) (A : Option Addr) (nl cl : Nat) (L : List Ent) (a : Ask) (w0 w : World) (hE : Ents w0 A nl cl L) (hn₀ : n₀ = w0.heap.size) (hb : Below n₀ w0 w)
    (hBl : w.cell? ⟨Bl, 0, none⟩ = some (.slice A nl cl)) (hBa : At w Ba 0 a.cells) :
    SeqStopsK Fence.wide n Try.prog 31 #[.pointer (some ⟨Bl, 0, none⟩), .pointer (some ⟨Ba, 0, none⟩)] encs (Kept n₀ Ba) (fun ys => ys = outs a 0 L) (fun pre => pre <+: outs a 0 L) (nl + 1) w := fun l J Jx W hW hJ _ hY h0 => by
  have hs : n₀ ≤ w.heap.size := by rw [hn₀]; exact hb.size
  exact fitting1_in n hn l Bl Ba n₀ A nl cl L a w0 hE hn₀ J Jx hY W (hb.trans (hW.mono hs)) ((hW.cell (World.block_lt_of_cell? w _ hBl)).trans hBl) (hBa.below hW) h0 (fun pre W1 W2 hj hb => abides_below hJ pre W1 W2 hj hb)

/-- What is told of what has been handed on. -/
def ids (l : List (Item × Bool)) : List Int := (l.filter (fun x => !x.2)).map (·.1.id)
theorem ids_no (l : List (Item × Bool)) (x : Item) : ids (l ++ [(x, false)]) = ids l ++ [x.id] := by simp [ids]
theorem ids_more (l : List (Item × Bool)) (x : Item) : ids (l ++ [(x, true)]) = ids l := by simp [ids]
theorem ids_le (l : List (Item × Bool)) : (ids l).length ≤ l.length := by
  unfold ids
  rw [List.length_map]
  exact List.length_filter_le _ _
theorem outs_true {a : Ask} {x : Item} : ∀ (L : List Ent) (m : Nat) (p : List (Item × Bool)), (p ++ [(x, true)]) <+: outs a m L → p ++ [(x, true)] = outs a m L
  | [], m, p, h => by
    have := h.length_le
    simp [outs] at this
  | e :: L, m, p, h => by
    simp only [outs] at h ⊢
    split at h
    · rename_i hf
      rw [if_pos hf]
      cases p with
      | nil =>
        rw [List.nil_append] at h ⊢
        obtain ⟨t, ht⟩ := h
        rw [List.singleton_append, List.cons.injEq] at ht
        have h1 := ht.1
        rw [Prod.mk.injEq] at h1
        rw [← h1.1, ← h1.2, if_pos (of_decide_eq_true h1.2.symm)]
      | cons y p =>
        rw [List.cons_append] at h ⊢
        rw [List.cons_prefix_cons] at h
        obtain ⟨rfl, h2⟩ := h
        split at h2
        · have := h2.length_le
          simp at this
        · rename_i hl
          rw [if_neg hl, outs_true L (m + 1) p h2]
    · rename_i hf
      rw [if_neg hf]
      exact outs_true L m p h
theorem info2 : (Try.prog.info? 2).map (fun i => (i.zero, i.size, i.bytes)) = some (some (.int .i64 0), 1, 8) := by kernel_rfl
/-- Between two rounds of Run. -/
def RunI (w : World) (s1 Bo : Nat) (pre : List (Item × Bool)) (W : World) : Prop :=
  (∃ v, Boxed W Bo 38 v ∧ W.ownsRow s1 2 1 v (ids pre).length ((ids pre).map (Value.int .i64)) ∧ True) ∧ (Below w.heap.size w W ∧ s1 ≤ W.heap.size)
def RunX (w : World) (s1 Bo : Nat) (c : Code) (pre : List (Item × Bool)) (W : World) : Prop := c = Code.exit 0 ∧ (RunI w s1 Bo pre W ∧ ∃ p x, pre = p ++ [(x, true)])
theorem runI_own {w : World} {s1 Bo : Nat} (h : w.heap.size ≤ s1) : OwnFrom s1 (RunI w s1 Bo) :=
  OwnFrom.and (Own.from (holdsRow_own s1 Bo 38 2 1 (fun pre => (ids pre).length) (fun pre => (ids pre).map (Value.int .i64)) (fun _ _ => True)) _) (OwnFrom.and (ownFrom_below (Nat.le_refl _) h) (fun _ _ _ _ hs hg _ => Nat.le_trans hs hg.size))
theorem runX_own {w : World} {s1 Bo : Nat} (h : w.heap.size ≤ s1) (c : Code) : OwnFrom s1 (RunX w s1 Bo c) :=
  fun s W W' row hs hg hr => ⟨hs.1, runI_own h s W W' row hs.2.1 hg hr, hs.2.2⟩
theorem row_lower {w : World} {b b' : Nat} {e : TypeId} {size : Nat} {v : Value} {n : Nat} {xs : List Value} (h : w.ownsRow b e size v n xs) (hb : b' ≤ b) : w.ownsRow b' e size v n xs := by
  refine ⟨h.1, ?_⟩
  rcases h.2 with h1 | ⟨g, cap, cur, e1, h2, h3⟩
  · exact .inl h1
  · exact .inr ⟨g, cap, cur, e1, Nat.le_trans hb h2, h3⟩
/-- What Run tells. -/
def RunPost (w : World) (l : List Int) (e : Ending) (w' : World) : Prop := (∃ v, e = .returned v ∧ Own w' .i64 2 w.heap.size v l.length l) ∧ Below w.heap.size w w'
set_option maxRecDepth 100000 in
set_option maxHeartbeats 8000000 in
theorem run_any (A : Option Addr) (nl cl : Nat) (L : List Ent) (a : Ask) (w : World) (hE : Ents w A nl cl L) (hnl : nl ≤ 100000) :
    Calls Try.prog 16 #[.slice A nl cl, .agg a.cells.toArray] w (RunPost w (ids (outs a 0 L))) := by
  refine (callsIn_wide (n := 3)).1 ?_
  obtain ⟨i0, hi, hz0, hz1, hz2⟩ := info_parts info2
  have HE := Lib.hid hE
  clear hE
  obtain ⟨Y, hY⟩ : ∃ Y, Y = a.cells.toArray := ⟨_, rfl⟩
  rw [← hY]
  have HY := Lib.hid hY
  have HAi := Lib.hid (show (Try.prog.info? 31).map (·.size) = some a.cells.length by rw [Ask.cells_length]; kernel_rfl)
  have hat0 : ∀ w : World, At (w.alloc (.cells Y 31)) w.heap.size 0 a.cells := fun w => by rw [hY]; exact at_alloc 31
  have HAT := Lib.hid hat0
  clear hY hat0
  refine callsIn_of_wp_marks Try.func16 rfl trivial ?_ rfl
  simp only [Try.ntmps16, List.size_toArray, List.length_cons, List.length_nil, Nat.reduceAdd, Nat.reduceSub, Array.replicate_succ, Array.replicate_zero, List.push_toArray, List.append_toArray, List.nil_append, List.cons_append]
  gi_wp2_with (refine wpListIn_load_mid rfl 31 (.tmp 3) rfl w.heap.size 0 rfl a.cells _ ((HAT.out w).below ((Below.refl _ _).alloc (Nat.le_refl _) _)).range Try.underlying31 rfl HAi.out ?_; rw [← HY.out])
  refine ⟨trivial, callsIn_wide.2 ((fitting_any A nl cl Y _).mono ?_)⟩
  rintro e w1 ⟨rfl, hw1⟩
  obtain ⟨W0, hW0⟩ : ∃ W0, W0 = (w.alloc (.cells Y 31)).alloc (.cells #[.slice none 0 0] 38) := ⟨_, rfl⟩
  have hs0 : W0.heap.size = w.heap.size + 2 := by rw [hW0]; simp
  rw [← hW0] at hw1 ⊢
  have hB0 : Below w.heap.size w W0 := by rw [hW0]; exact ((Below.refl _ _).alloc (Nat.le_refl _) _).alloc (by simp) _
  have hO0 : Boxed W0 (w.heap.size + 1) 38 (.slice none 0 0) := by
    have := Boxed.new (w.alloc (.cells Y 31)) 38 (.slice none 0 0)
    rw [World.size_alloc, ← hW0] at this
    exact this
  have hs1 : w1.heap.size = w.heap.size + 4 := by rw [hw1]; simp [hs0]
  have hB1 : Below w.heap.size w w1 := by rw [hw1]; exact (hB0.alloc hB0.size _).alloc (by have := hB0.size; simp; omega) _
  have hO1 : Boxed w1 (w.heap.size + 1) 38 (.slice none 0 0) := by rw [hw1]; exact (hO0.alloc _).alloc _
  have hl1 : w1.cell? ⟨W0.heap.size, 0, none⟩ = some (.slice A nl cl) := by
    have h1 : (W0.alloc (.cells #[.slice A nl cl] 22)).cell? ⟨W0.heap.size, 0, none⟩ = some (.slice A nl cl) := by simp
    rw [hw1]
    exact (((Below.refl _ (W0.alloc (.cells #[.slice A nl cl] 22))).alloc (Nat.le_refl _) (.cells Y 31)).cell (World.block_lt_of_cell? _ _ h1)).trans h1
  have ha1 : At w1 (W0.heap.size + 1) 0 a.cells := by
    have := HAT.out (W0.alloc (.cells #[.slice A nl cl] 22))
    rw [World.size_alloc, ← hw1] at this
    exact this
  obtain ⟨Bl, hBl⟩ : ∃ b, b = W0.heap.size := ⟨_, rfl⟩
  obtain ⟨Ba, hBa⟩ : ∃ b, b = W0.heap.size + 1 := ⟨_, rfl⟩
  obtain ⟨Bo, hBo⟩ : ∃ b, b = w.heap.size + 1 := ⟨_, rfl⟩
  rw [← hBa] at ha1 ⊢
  rw [← hBl] at hl1 ⊢
  rw [← hBo] at hO1 ⊢
  have HB1 := Lib.hid hB1
  have HO1 := Lib.hid hO1
  have HL1 := Lib.hid hl1
  have HA1 := Lib.hid ha1
  have HS : Hid (Ba = w.heap.size + 3 ∧ w1.heap.size = w.heap.size + 4 ∧ Bo = w.heap.size + 1) := Lib.hid ⟨by omega, hs1, hBo⟩
  clear hW0 hs0 hw1 hB0 hO0 hs1 hB1 hO1 hl1 ha1 hBl hBa hBo
  gi_wp2_with fail
  have hle1 : w.heap.size ≤ w1.heap.size := HB1.out.size
  refine wpIn_rangeFunc_ownH rfl (by omega) (gf := 31) (lb := #[.pointer (some ⟨Bl, 0, none⟩), .pointer (some ⟨Ba, 0, none⟩)]) rfl trivial (enters_of Try.func31 (by kernel_rfl) rfl)
    (fitting_stops 2 (by omega) Bl Ba w.heap.size A nl cl L a w w1 HE.out rfl HB1.out HL1.out HA1.out) kept_t (kept_b hle1 (by have := HS.out; omega)) (Below.refl _ _) (fun _ => rfl)
    (RunI w w1.heap.size Bo) (RunX w w1.heap.size Bo) (runI_own hle1) (runX_own hle1) ⟨⟨_, HO1.out, World.ownsRow_nil _ _ _ _, trivial⟩, HB1.out, Nat.le_refl _⟩
    (fun x a' W => ∃ Bx, w1.heap.size ≤ Bx ∧ W.heap[Bx]? = some (.cells x.1.cells.toArray 24 (0, 0)) ∧ a' = { tmps := #[.slice A nl cl, .agg Y, undef, .pointer (some ⟨w.heap.size, 0, none⟩), .slice none 0 0, .pointer (some ⟨Bo, 0, none⟩), .pointer (some ⟨Bx, 0, none⟩), .bool x.2, .slice A nl cl, .agg Y, .func (.func 31) #[] #[.pointer (some ⟨Bl, 0, none⟩), .pointer (some ⟨Ba, 0, none⟩)], .agg x.1.cells.toArray, .bool x.2, undef, undef, undef, undef, undef, undef, undef], defers := [] })
    (fun x a' => fun _ W W' row ⟨Bx, h1, h2, h3⟩ hg hr => ⟨Bx, h1, (hg.block Bx (Array.getElem?_eq_some_iff.1 h2).1 (fun e => by
      obtain ⟨_, o, ho, hc⟩ := hr Bx e.symm
      rw [h2] at ho; cases ho; cases hc)).trans h2, h3⟩) ?assign ?body ?done ?stop
  case assign =>
    rintro l pre ⟨it, z⟩ W K hi hK
    obtain ⟨X, hX⟩ : ∃ X, X = it.cells.toArray := ⟨_, rfl⟩
    have HXi := Lib.hid (show (Try.prog.info? 24).map (·.size) = some X.size by rw [hX]; kernel_rfl)
    have HX5 := Lib.hid (show X.size = 5 by rw [hX]; rfl)
    have HX1 := Lib.hid (show X.all (·.oneCell') = true by rw [hX, List.all_toArray, List.all_eq_true]; exact item_one it)
    simp only [encs]
    simp only [← hX] at hK ⊢
    have HI := Lib.hid hi
    clear hX hi
    gi_wp2_with (refine wpListIn_store_row rfl 24 (.tmp 6) (.tmp 11) rfl W.heap.size X rfl rfl 24 _ (heap_alloc_new _ _) HXi.out (by rw [HX5.out]; rfl) HX1.out ?_; rw [World.setRow_alloc_new])
    obtain ⟨⟨v, hv, hrow, _⟩, hbel, hsz⟩ := HI.out
    refine hK _ _ ((KeepsOthers.alloc _ _).from _) ⟨(Below.refl _ W).alloc hbel.size _, heap_alloc_old _ _ (by have := HS.out; omega)⟩ ⟨⟨v, hv.alloc _, hrow.alloc _, trivial⟩, hbel.alloc hbel.size _, by simp; omega⟩ ⟨W.heap.size, hsz, heap_alloc_new _ _, rfl⟩
  case body =>
    rintro l pre ⟨it, z⟩ a' W _ _ ⟨⟨v, hv, hrow, _⟩, hbel, hsz⟩ ⟨Bx, hBx, hX, rfl⟩ hlt
    cases z with
    | true =>
      gi_wp2
      exact ⟨KeepsFrom.refl _ _, rfl, ⟨⟨v, hv, by rw [ids_more]; exact hrow, trivial⟩, hbel, hsz⟩, pre, it, rfl⟩
    | false =>
      have hc := hv.cell
      have hx1 : W.cell? ⟨Bx, 0, none⟩ = some (.int .i64 it.id) := by simp [World.cell?, hX, Item.cells]
      have hpl := ids_le pre
      have hpn : pre.length < nl + 1 := hlt
      have hbB := Lib.hid (show Bo ≠ Bx by have := HS.out; omega)
      gi_wp2_with (gi_at_builtin; refine wpListIn_append_own _ rfl _ _ 38 rfl w1.heap.size 2 i0 (.int .i64 0) 1 8 Try.underlying38 hi hz0 hz1 hz2 rfl (by decide) _ _ _ rfl (hrow.alloc _) ⟨W.heap.size, 0, none⟩ 1 1 [.int .i64 it.id] rfl rfl (cell_one_new _ _ _) (by simp [Value.oneCell']) (by unfold maxLen; omega) (by omega) (by simp; omega) ?_; intro v' w2 hown' hgrow _; obtain ⟨g', cap', rfl⟩ := ownsRow_succ hown'; have hrowL := row_lower hrow hle1; obtain ⟨hv1, hv2, hr2, hk2, hb2⟩ := hv.appended (by decide) hrowL hbel.size (by have := HS.out; omega) (row_lower hown' hle1) hgrow; have hr3 := hown'.kept (grownBy_setCell' w2 Bo (.slice (some ⟨g', 0, none⟩) ((ids pre).length + 1) cap')) (.inr (hv1.not_row (by decide) hown').symm); have hc1 := hv1.cell; have hf1 := hv1.frozen)
      have hba : w2.heap[Ba]? = W.heap[Ba]? := by
        have hlt2 : Ba < W.heap.size := by have := HS.out; omega
        refine (hgrow.block Ba (by simp; omega) (fun e => ?_)).trans (heap_alloc_old _ _ hlt2)
        have := (World.ownsRow.lt hrow Ba e.symm).1
        have := HS.out
        omega
      have hba2 := (Below.heap_setCell w2 ⟨Bo, 0, none⟩ (.slice (some ⟨g', 0, none⟩) ((ids pre).length + 1) cap') Ba (by have := HS.out; show Ba ≠ Bo; omega)).trans hba
      refine ⟨hk2.from _, ⟨hb2, hba2⟩, ⟨_, hv2, ?_, trivial⟩, hbel.trans hb2, Nat.le_trans hsz hk2.size⟩
      rw [ids_no]
      simpa using hr3
  case done =>
    rintro D ys W hD rfl ⟨⟨v, hv, hrow, _⟩, hbel, hsz⟩ hK
    have hc := hv.cell
    gi_wp2
    refine ⟨by simp, .inl ⟨_, _, rfl, run_takeDeferred hK, ?_⟩⟩
    exact ⟨_, results_tmp rfl _ _ _, ⟨v, rfl, ownsRow_putObj (row_lower hrow hle1) _ hK rfl⟩, hbel.trans (belowK_b (w := w1) hle1 W D _ _ hD hK rfl rfl)⟩
  case stop =>
    rintro D c pre W hD hSp ⟨rfl, ⟨⟨v, hv, hrow, _⟩, hbel, hsz⟩, p, x, rfl⟩ hK
    have e := outs_true (x := x) L 0 p hSp
    have hc := hv.cell
    have HEE := Lib.hid e
    clear e hSp
    gi_wp2
    refine ⟨by simp, .inl ⟨_, _, rfl, run_takeDeferred hK, ?_⟩⟩
    refine ⟨_, results_tmp rfl _ _ _, ⟨v, rfl, ?_⟩, hbel.trans (belowK_b (w := w1) hle1 W D _ _ hD hK rfl rfl)⟩
    rw [← HEE.out]
    exact ownsRow_putObj (row_lower hrow hle1) _ hK rfl
end Go.Proofs.Ytbfnjfmnblafaaa.Qry
