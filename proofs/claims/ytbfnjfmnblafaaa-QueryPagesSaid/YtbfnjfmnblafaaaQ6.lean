/- query.Next -/
import Derived.Test.YtbfnjfmnblafaaaQ6a
namespace Go.Proofs.Ytbfnjfmnblafaaa.Qry
open Go.RowKit Go.Shelf

attribute [local go_sem] Oper.semAt_some
set_option maxRecDepth 100000 in
set_option maxHeartbeats 8000000 in
theorem next_any (A : Option Addr) (nl cl : Nat) (L : List Ent) (a : Ask) (w : World) (hE : Ents w A nl cl L) :
    Calls Try.prog 11 #[.slice A nl cl, .agg a.cells.toArray] w (NextPost w (nxt a (outs a 0 L))) := by
  refine (callsIn_wide (n := 3)).1 ?_
  have HE := Lib.hid hE
  clear hE
  obtain ⟨Y, hY⟩ : ∃ Y, Y = a.cells.toArray := ⟨_, rfl⟩
  rw [← hY]
  have HY := Lib.hid hY
  have HYi := Lib.hid (show (Try.prog.info? 31).map (·.size) = some Y.size by rw [hY]; kernel_rfl)
  have HY7 := Lib.hid (show Y.size = 7 by rw [hY]; rfl)
  have HY1 := Lib.hid (show Y.all (·.oneCell') = true by rw [hY, List.all_toArray, List.all_eq_true]; exact ask_one a)
  have HAi := Lib.hid (show (Try.prog.info? 31).map (·.size) = some a.cells.length by rw [Ask.cells_length]; kernel_rfl)
  have HAR := Lib.hid (show ∀ w b, w.heap[b]? = some (.cells Y 31 (0, 0)) → At w b 0 a.cells from fun w b h j hj => by rw [hY] at h; simp [World.cell?, h, hj])
  clear hY
  refine callsIn_of_wp_marks Try.func11 rfl trivial ?_ rfl
  simp only [Try.ntmps11, List.size_toArray, List.length_cons, List.length_nil, Nat.reduceAdd, Nat.reduceSub, Array.replicate_succ, Array.replicate_zero, List.push_toArray, List.append_toArray, List.nil_append, List.cons_append]
  gi_wp2_with (first | (refine wpListIn_load_mid rfl 31 (.tmp 3) rfl w.heap.size 0 rfl a.cells _ (HAR.out _ w.heap.size (by first | exact heap3 w _ _ _ | exact heap4 w _ _ _ _)).range Try.underlying31 rfl HAi.out ?_; rw [← HY.out]) | (refine wpListIn_store_row rfl 31 (.tmp 6) (.tmp 9) rfl (w.heap.size + 3) Y rfl rfl 31 _ (heap4_3 w _ _ _ _) HYi.out (by rw [HY7.out]; rfl) HY1.out ?_; rw [set4]))
  refine ⟨trivial, callsIn_wide.2 ((fitting_any A nl cl Y _).mono ?_)⟩
  rintro e w1 ⟨rfl, hw1⟩
  obtain ⟨W0, hW0⟩ : ∃ W0, W0 = (((w.alloc (.cells Y 31)).alloc (.cells #[.string ⟨#[]⟩, .int .i64 0, .int .i64 0, .int .i64 0, .int .i64 0, .int .i64 0, .int .i64 0] 31)).alloc (.cells #[.bool false] 4)).alloc (.cells Y 31) := ⟨_, rfl⟩
  have hs0 : W0.heap.size = w.heap.size + 4 := by rw [hW0]; simp
  rw [← hW0] at hw1 ⊢
  have hB0 : Below w.heap.size w W0 := by rw [hW0]; exact ((((Below.refl _ _).alloc (Nat.le_refl _) _).alloc (by simp) _).alloc (by simp; omega) _).alloc (by simp; omega) _
  have hb0 : W0.heap[w.heap.size]? = some (.cells Y 31 (0, 0)) := by rw [hW0]; exact heap4 w _ _ _ _
  have hb1 : W0.heap[w.heap.size + 1]? = some (.cells Ask.zero.cells.toArray 31 (0, 0)) := by rw [hW0]; exact heap4_1 w _ _ _ _
  have hb2 : W0.heap[w.heap.size + 2]? = some (.cells #[.bool false] 4 (0, 0)) := by rw [hW0]; exact heap4_2 w _ _ _ _
  have hb3 : W0.heap[w.heap.size + 3]? = some (.cells Y 31 (0, 0)) := by rw [hW0]; exact heap4_3 w _ _ _ _
  clear hW0
  have hs1 : w1.heap.size = w.heap.size + 6 := by rw [hw1]; simp [hs0]
  have hB01 : Below W0.heap.size W0 w1 := by rw [hw1]; exact ((Below.refl _ _).alloc (Nat.le_refl _) _).alloc (by simp) _
  have hB1 : Below w.heap.size w w1 := hB0.trans (hB01.mono hB0.size)
  have hl1 : w1.cell? ⟨W0.heap.size, 0, none⟩ = some (.slice A nl cl) := by
    have h1 : (W0.alloc (.cells #[.slice A nl cl] 22)).cell? ⟨W0.heap.size, 0, none⟩ = some (.slice A nl cl) := by simp
    rw [hw1]
    exact (((Below.refl _ (W0.alloc (.cells #[.slice A nl cl] 22))).alloc (Nat.le_refl _) (.cells Y 31)).cell (World.block_lt_of_cell? _ _ h1)).trans h1
  have ha1 : At w1 (W0.heap.size + 1) 0 a.cells := by
    refine HAR.out _ _ ?_
    have := heap_alloc_new (W0.alloc (.cells #[.slice A nl cl] 22)) (.cells Y 31)
    rw [World.size_alloc] at this
    rw [hw1]; exact this
  have hi1 : NextI w w1.heap.size w.heap.size (w.heap.size + 1) (w.heap.size + 2) (w.heap.size + 3) a [] w1 := by
    refine ⟨⟨?_, ?_, ?_, ?_, rfl⟩, hB1, Nat.le_refl _⟩
    · rw [hB01.block _ (by omega)]; simpa [upd, HY.out] using hb3
    · rw [hB01.block _ (by omega)]; simpa [HY.out] using hb0
    · rw [hB01.block _ (by omega)]; exact hb1
    · rw [hB01.block _ (by omega)]; exact hb2
  obtain ⟨Bl, hBl⟩ : ∃ b, b = W0.heap.size := ⟨_, rfl⟩
  obtain ⟨Ba, hBa⟩ : ∃ b, b = W0.heap.size + 1 := ⟨_, rfl⟩
  obtain ⟨g, hg⟩ : ∃ b, b = w.heap.size := ⟨_, rfl⟩
  obtain ⟨Br, hBr⟩ : ∃ b, b = w.heap.size + 1 := ⟨_, rfl⟩
  obtain ⟨Bz, hBz⟩ : ∃ b, b = w.heap.size + 1 + 1 := ⟨_, rfl⟩
  obtain ⟨Bb, hBb⟩ : ∃ b, b = w.heap.size + 1 + 1 + 1 := ⟨_, rfl⟩
  rw [← hBa] at ha1 ⊢
  rw [← hBl] at hl1 ⊢
  have hi2 : NextI w w1.heap.size g Br Bz Bb a [] w1 := by rw [hg, hBr, hBz, hBb]; exact hi1
  rw [← hBb, ← hBz, ← hBr, ← hg]
  have HS : Hid (g = w.heap.size ∧ Br = g + 1 ∧ Bz = g + 2 ∧ Bb = g + 3 ∧ Ba = g + 5 ∧ w1.heap.size = g + 6) := Lib.hid (by omega)
  have HB1 := Lib.hid hB1
  have HL1 := Lib.hid hl1
  have HA1 := Lib.hid ha1
  have HI1 := Lib.hid hi2
  clear hs0 hw1 hB0 hs1 hB1 hl1 ha1 hBl hBa hb0 hb1 hb2 hb3 hB01 hi1 hg hi2 hBr hBz hBb
  gi_wp2_with fail
  have hle1 : w.heap.size ≤ w1.heap.size := HB1.out.size
  refine wpIn_rangeFunc_ownH rfl (by omega) (gf := 31) (lb := #[.pointer (some ⟨Bl, 0, none⟩), .pointer (some ⟨Ba, 0, none⟩)]) rfl trivial (enters_of Try.func31 (by kernel_rfl) rfl)
    (fitting_stops 2 (by omega) Bl Ba w.heap.size A nl cl L a w w1 HE.out rfl HB1.out HL1.out HA1.out) kept_t (kept_b hle1 (by have := HS.out; omega)) (Below.refl _ _) (fun _ => rfl)
    (NextI w w1.heap.size g Br Bz Bb a) (NextX w Br Bz a) (nextI_own hle1) (nextX_own hle1) HI1.out
    (fun x a' W => ∃ Bx, w1.heap.size ≤ Bx ∧ W.heap[Bx]? = some (.cells x.1.cells.toArray 24 (0, 0)) ∧ a' = { tmps := #[.slice A nl cl, .agg Y, undef, .pointer (some ⟨g, 0, none⟩), .pointer (some ⟨Br, 0, none⟩), .pointer (some ⟨Bz, 0, none⟩), .pointer (some ⟨Bb, 0, none⟩), .pointer (some ⟨Bx, 0, none⟩), .bool x.2, .agg Y, .slice A nl cl, .agg Y, .func (.func 31) #[] #[.pointer (some ⟨Bl, 0, none⟩), .pointer (some ⟨Ba, 0, none⟩)], .agg x.1.cells.toArray, .bool x.2, undef, undef, undef, undef, undef, undef, undef, undef, undef, undef, undef, undef, undef, undef, undef], defers := [] })
    (fun x a' => fun _ W W' row ⟨Bx, h1, h2, h3⟩ hg hr => ⟨Bx, h1, (hg.block Bx (Array.getElem?_eq_some_iff.1 h2).1 (fun e => by
      obtain ⟨_, o, ho, hc⟩ := hr Bx e.symm
      rw [h2] at ho; cases ho; cases hc)).trans h2, h3⟩) ?assign ?body ?done ?stop
  case assign =>
    rintro l pre ⟨it, z⟩ W K hi hK
    obtain ⟨X, hX⟩ : ∃ X, X = it.cells.toArray := ⟨_, rfl⟩
    have HXi := Lib.hid (show (Try.prog.info? 24).map (·.size) = some X.size by rw [hX]; kernel_rfl)
    have HX5 := Lib.hid (show X.size = 5 by rw [hX]; rfl)
    have HX1 := Lib.hid (show X.all (·.oneCell') = true by rw [hX, List.all_toArray, List.all_eq_true]; exact item_one it)
    simp only [encs]
    simp only [← hX] at hK ⊢
    have HI := Lib.hid hi
    clear hX hi
    gi_wp2_with (refine wpListIn_store_row rfl 24 (.tmp 7) (.tmp 13) rfl W.heap.size X rfl rfl 24 _ (heap_alloc_new _ _) HXi.out (by rw [HX5.out]; rfl) HX1.out ?_; rw [World.setRow_alloc_new])
    have hsz := HI.out.2.2
    refine hK _ _ ((KeepsOthers.alloc _ _).from _) ⟨(Below.refl _ W).alloc (HI.out.2.1).size _, heap_alloc_old _ _ (by have := HS.out; omega)⟩ ((nextI_own hle1).alloc _ HI.out) ⟨W.heap.size, hsz, heap_alloc_new _ _, rfl⟩
  case body =>
    rintro l pre ⟨it, z⟩ a' W _ _ ⟨⟨hbb, hba, hz1, hz2, hm⟩, hbel, hsz⟩ ⟨Bx, hBx, hX, rfl⟩ hlt
    have HBL := Lib.hid hbel
    obtain ⟨U, hU⟩ : ∃ U, U = (upd a pre).cells.toArray := ⟨_, rfl⟩
    have HU := Lib.hid hU
    have HUi := Lib.hid (show (Try.prog.info? 31).map (·.size) = some U.size by rw [hU]; kernel_rfl)
    have HU7 := Lib.hid (show Ask.zero.cells.toArray.size = U.size by rw [hU]; rfl)
    have HU1 := Lib.hid (show U.all (·.oneCell') = true by rw [hU, List.all_toArray, List.all_eq_true]; exact ask_one _)
    have HCi := Lib.hid (show (Try.prog.info? 31).map (·.size) = some (upd a pre).cells.length by rw [Ask.cells_length]; kernel_rfl)
    have HUR := Lib.hid (show At W Bb 0 (upd a pre).cells from fun j hj => by simp [World.cell?, hbb, hj])
    rw [← hU] at hbb
    cases z with
    | true =>
      have hl : W.cell? ⟨g, 6, none⟩ = some (.int .i64 a.limit) := by simp [World.cell?, hba, Ask.cells]
      have hz2c : W.cell? ⟨Bz, 0, none⟩ = some (.bool false) := by simp [World.cell?, hz2]
      obtain ⟨t, ht⟩ : ∃ t, t = decide (0 < a.limit) := ⟨_, rfl⟩
      have ht' := ht.symm
      have HT := Lib.hid ht'
      have HZ1 := Lib.hid hz1
      have HZ2 := Lib.hid hz2
      have HIn := Lib.hid (show Below w.heap.size w W ∧ w1.heap.size ≤ W.heap.size from ⟨hbel, hsz⟩)
      have HBB := Lib.hid hbb
      have HBA := Lib.hid hba
      have HM := Lib.hid hm
      clear ht hz1 hz2 hbel hsz hbb hba hm hU
      have hS : ∀ W2, W2 = W.setRow Br U → W2.cell? ⟨Bz, 0, none⟩ = some (.bool false) ∧ W2.frozen? ⟨Bz, 0, none⟩ = false := by
        have hh := HS.out
        rintro W2 rfl
        refine ⟨(cell_setRow_other _ _ _ _ (by show Bz ≠ Br; omega)).trans hz2c, frozen_of_row _ Bz 0 #[.bool false] 4 ?_⟩
        rw [setRow_other _ _ _ _ (by omega)]; exact HZ2.out
      have HS2 := Lib.hid hS
      clear hS
      cases t with
      | true =>
        gi_wp2_with (first | (refine wpListIn_load_mid rfl 31 (.tmp 6) rfl Bb 0 rfl (upd a pre).cells _ HUR.out.range Try.underlying31 rfl HCi.out ?_; rw [← HU.out]) | (refine wpListIn_store_row rfl 31 (.tmp 4) (.tmp 28) rfl Br U rfl rfl 31 _ HZ1.out HUi.out HU7.out HU1.out ?_; obtain ⟨W2, hW2⟩ : ∃ W2, W2 = W.setRow Br U := ⟨_, rfl⟩; rw [← hW2]; have HW2 := Lib.hid hW2; obtain ⟨hc2, hf2⟩ := HS2.out W2 hW2; clear hW2))
        have hh := HS.out
        have e2 := HW2.out
        have hr2 : W2.heap[Br]? = some (.cells U 31 (0, 0)) := by rw [e2]; exact setRow_heap _ _ _ _ _ _ HZ1.out
        have hz3 : W2.heap[Bz]? = some (.cells #[.bool false] 4 (0, 0)) := by rw [e2, setRow_other _ _ _ _ (by omega)]; exact HZ2.out
        have hk2 : KeepsOthers W W2 := by rw [e2]; exact keeps_setRow HZ1.out
        have hb2 : Below w.heap.size w W2 := by rw [e2]; exact below_setRow HIn.out.1 (by omega)
        refine ⟨(hk2.trans (KeepsOthers.setCell _ _ _)).from _, rfl, ⟨?_, ?_, ?_⟩, by rw [more_more]; exact HT.out, pre, it, rfl⟩
        · rw [heap_setCell_other _ _ _ _ (by show Br ≠ Bz; omega), upd_more, ← HU.out]; exact hr2
        · exact heap_setCell_same W2 Bz 0 _ 4 _ hz3
        · exact hb2.setCell (p := ⟨Bz, 0, none⟩) (by show w.heap.size ≤ Bz; omega) _
      | false =>
        gi_wp2
        exact ⟨KeepsFrom.refl _ _, ⟨Below.refl _ _, rfl⟩, ⟨by rw [upd_more, ← HU.out]; exact HBB.out, HBA.out, HZ1.out, HZ2.out, by rw [more_more]; exact HT.out⟩, HIn.out⟩
    | false =>
      have hx2 : W.cell? ⟨Bx, 2, none⟩ = some (.int .i64 it.tick) := by simp [World.cell?, hX, Item.cells]
      have hx0 : W.cell? ⟨Bx, 0, none⟩ = some (.int .i64 it.id) := by simp [World.cell?, hX, Item.cells]
      have hb4 : W.cell? ⟨Bb, 4, none⟩ = some (.int .i64 (upd a pre).tick) := by rw [hU] at hbb; simp [World.cell?, hbb, Ask.cells]
      have hb5 : W.cell? ⟨Bb, 5, none⟩ = some (.int .i64 (upd a pre).id) := by rw [hU] at hbb; simp [World.cell?, hbb, Ask.cells]
      have hfr : ∀ j, W.frozen? ⟨Bb, j, none⟩ = false := fun j => frozen_of_row W Bb j _ _ hbb
      have hne : Bx ≠ Bb := by have := HS.out; omega
      have hne2 : Bb ≠ Bx := fun e => hne e.symm
      have HS2 := Lib.hid (show Bb = g + 3 ∧ Br = g + 1 ∧ Bz = g + 2 ∧ Ba = g + 5 ∧ g = w.heap.size by have := HS.out; omega)
      have HBB := Lib.hid hbb
      have HBA := Lib.hid hba
      have HZ1 := Lib.hid hz1
      have HZ2 := Lib.hid hz2
      have HM := Lib.hid hm
      have HSZ := Lib.hid hsz
      clear hbb hba hz1 hz2 hm hsz hU hbel
      gi_wp2
      gi_region
      all_goals exact no_end_drew HS2.out HU.out HBB.out HBA.out HZ1.out HZ2.out HM.out HBL.out HSZ.out
  case done =>
    rintro D ys W hD rfl ⟨⟨hbb, hba, hz1, hz2, hm⟩, hbel, hsz⟩ hK
    have HZ1 := Lib.hid hz1
    have HZ2 := Lib.hid hz2
    have HQi := Lib.hid (show (Try.prog.info? 31).map (·.size) = some Ask.zero.cells.toArray.size by kernel_rfl)
    have HQ1 := Lib.hid (show Ask.zero.cells.toArray.all (·.oneCell') = true by kernel_rfl)
    have HN := Lib.hid (show nxt a (outs a 0 L) = (Ask.zero, false) by unfold nxt; rw [hm]; rfl)
    have HBE := Lib.hid hbel
    have HD := Lib.hid hK
    clear hbb hba hz1 hz2 hm hbel hsz hK
    have HS4 : Hid (∀ W2, W2 = W.setRow Br Ask.zero.cells.toArray → W2.cell? ⟨Bz, 0, none⟩ = some (.bool false) ∧ W2.frozen? ⟨Bz, 0, none⟩ = false) := Lib.hid (fun W2 e => fz_row (by have := HS.out; omega) HZ2.out e)
    gi_wp2_with (refine wpListIn_store_row rfl 31 (.tmp 4) (.tmp 29) rfl Br Ask.zero.cells.toArray rfl rfl 31 _ HZ1.out HQi.out rfl HQ1.out ?_; obtain ⟨W2, hW2⟩ : ∃ W2, W2 = W.setRow Br Ask.zero.cells.toArray := ⟨_, rfl⟩; rw [← hW2]; have HW2 := Lib.hid hW2; obtain ⟨hc2, hf2⟩ := HS4.out W2 hW2; clear hW2)
    obtain ⟨hb3, h31, h32, hd3⟩ := end_row (v := .bool false) (Br := Br) (Bz := Bz) (by have := HS.out; omega) (by have := HS.out; omega) (by have := HS.out; omega) HBE.out HW2.out HZ1.out HZ2.out HD.out
    refine ⟨by simp, .inl ⟨_, _, rfl, run_takeDeferred hd3, ?_⟩⟩
    refine ⟨_, results_ca rfl _ _ Br Bz 31 4 Ask.zero.cells.toArray (.bool false) (0, 0) (0, 0) _ rfl (by rw [World.putObj_heap_other (by have := HS.out; omega)]; exact h31) Try.underlying31 rfl (by kernel_rfl) rfl (by rw [World.putObj_heap_other (by have := HS.out; omega)]; exact h32) Try.underlying4, by rw [HN.out], hb3.trans (belowK_b (w := w1) hle1 _ D _ _ hD hd3 rfl rfl)⟩
  case stop =>
    rintro D c pre W hD hSp ⟨rfl, ⟨h1, h2, hbel⟩, hm, p, x, rfl⟩ hK
    have e := outs_true (x := x) L 0 p hSp
    have HN := Lib.hid (show nxt a (outs a 0 L) = (upd a (outs a 0 L), true) by unfold nxt; rw [← e, hm]; rfl)
    rw [e] at h1
    have H1 := Lib.hid h1
    have H2 := Lib.hid h2
    have HBE := Lib.hid hbel
    have HD := Lib.hid hK
    clear h1 h2 hm hbel hSp e
    gi_wp2
    refine ⟨by simp, .inl ⟨_, _, rfl, run_takeDeferred HD.out, ?_⟩⟩
    refine ⟨_, results_ca rfl _ _ Br Bz 31 4 (upd a (outs a 0 L)).cells.toArray (.bool true) (0, 0) (0, 0) _ rfl (by rw [World.putObj_heap_other (by have := HS.out; omega)]; exact H1.out) Try.underlying31 rfl (by kernel_rfl) rfl (by rw [World.putObj_heap_other (by have := HS.out; omega)]; exact H2.out) Try.underlying4, by rw [HN.out], HBE.out.trans (belowK_b (w := w1) hle1 _ D _ _ hD HD.out rfl rfl)⟩
end Go.Proofs.Ytbfnjfmnblafaaa.Qry
