/- The document's Sort. -/
import Derived.Test.YtclfbjbbdfejkaaOL
import Derived.Test.YtclfbjbbdfejkaaFlowSet
import Derived.Deep.CutBlock
namespace Go.Proofs.Ytclfbjbbdfejkaa.Flow
theorem vals_put {a : Act} {d : Nat} {v : Value} (h : d < a.tmps.size) : vals (a.put (some d) v) d = v := getD_same _ _ _ h
theorem vals_put_ne {a : Act} {d t : Nat} {v : Value} (h : d ≠ t) : vals (a.put (some d) v) t = vals a t := getD_other _ _ _ _ h
end Go.Proofs.Ytclfbjbbdfejkaa.Flow
namespace Go.Proofs.Ytclfbjbbdfejkaa.Ord
open Go.RowKit

theorem step_run {P : Program} {o : Oper} {a : Act} {w w' : World} {post : Value → World → Prop} {v : Value} (h : (execOp a.eval o).run P w = .ok (.value v) w') (hp : post v w') : Flow.step P o a w post := by
  unfold Flow.step
  rw [h]
  exact hp
theorem step_append {w : World} {o : Oper} {a : Act} {post : Value → World → Prop} (s x : Operand) (t e : TypeId) (z : Value) (size bytes : Nat)
    (ho : o.op = .call { callee := .builtin .append, args := #[s, x], argTypes := #[t, t] }) (ht : Try.prog.underlying t = some (.slice e)) (hie : (Try.prog.info? e).map (fun i => (i.zero, i.size, i.bytes)) = some (some z, size, bytes)) (hzs : z.cells.size = size) (hsz : 0 < size)
    (base : Nat) (v : Value) (n : Nat) (xs : List Value) (hs : a.eval s = v) (hown : w.ownsRow base e size v n xs)
    (A : Option Addr) (m c : Nat) (news : List Value) (hx : a.eval x = .slice A m c) (hr : Src w A m c size news) (hm : n + m ≤ maxLen) (hb : (n + m) * bytes ≤ 140737488355328) (hbase : base ≤ w.heap.size)
    (h : ∀ v' w', w'.ownsRow base e size v' (n + m) (xs ++ news) → w.grownBy w' v.ownBlock → (v'.ownBlock = v.ownBlock ∨ v'.ownBlock = some w.heap.size) → post v' w') : Flow.step Try.prog o a w post := by
  obtain ⟨i0, hi, hz0, hz1, hz2⟩ := info_parts hie
  rcases hr with ⟨rfl, rfl, rfl, rfl⟩ | ⟨ad, rfl, hl, hc, h1⟩
  · have hrun := run_append_owned_none (P := Try.prog) (w := w) base t o.type e i0 size ht hi v n xs hown
    refine step_run (v := v) (w' := w) ?_ (h v w (by simpa using hown) (World.grownBy.refl _ _) (.inl rfl))
    simp [execOp, ho, resolve, invoke, builtin, hs, hx, hrun, Result.andThen]
  · obtain ⟨v', w', hr, h2, h3, _, h5⟩ := run_append_own_at (P := Try.prog) w base t o.type e i0 z size bytes ht hi hz0 hz1 hz2 hzs hsz v n xs hown ad m c news hl hc h1 hm hb hbase
    refine step_run (v := v') (w' := w') ?_ (h v' w' h2 h3 h5)
    unfold execOp
    simp only [ho, resolve, invoke, builtin, Sem.run_bind, Sem.run_pure, Result.andThen_ok, List.map_toArray, List.map_cons, List.map_nil, hs, hx, hr]
theorem item_fill (e : Item) : Instr.fill (fun i => some (i * 5, 5)) ((Array.range (1 * 5)).map (zeroE.cells[· % zeroE.cells.size]!)) [(0, Value.agg e.cells.toArray)] = some e.cells.toArray := by kernel_rfl
theorem item_build (w : World) (e : Item) : (Instr.buildSlice 22 1 #[(0, .agg e.cells.toArray)]).run Try.prog w = .ok (.slice (some ⟨w.heap.size, 0, none⟩) 1 1) (w.alloc (.cells e.cells.toArray 24)) := by
  obtain ⟨i0, hi, hz0, hz1, hz2⟩ := info_parts infoE
  refine run_buildSlice w 22 24 1 _ _ i0 zeroE Try.underlying22 hi hz0 (by rw [hz1]; decide) (by rw [hz1]; decide) ?_
  rw [hz1]
  exact item_fill e
theorem step_build1 {o : Oper} {a : Act} {w : World} {post : Value → World → Prop} (x : Tmp) (ho : o.op = .buildSlice 22 1 #[(0, .tmp x)]) (e : Item) (hx : a.tmps.getD x undef = .agg e.cells.toArray)
    (hp : post (.slice (some ⟨w.heap.size, 0, none⟩) 1 1) (w.alloc (.cells e.cells.toArray 24))) : Flow.step Try.prog o a w post := by
  refine step_run ?_ hp
  unfold execOp
  simp only [ho, Act.eval, List.map_toArray, List.map_cons, List.map_nil, hx, Sem.run_bind, item_build w e, Result.andThen_ok, Sem.run_pure]
theorem item_src {w : World} {j : Nat} {e : Item} (h : At w j 0 e.cells) : Src w (some ⟨j, 0, none⟩) 1 1 5 e.cells := by
  refine .inr ⟨_, rfl, by rw [Item.cells_length], fun i u hu => ?_, item_one e⟩
  obtain ⟨hi, rfl⟩ := List.getElem?_eq_some_iff.1 hu
  rw [add_off]
  exact h i hi
theorem Its.take' {w : World} {A : Option Addr} {n c : Nat} {l : List Item} (h : Its w A n c l) (k : Nat) (hk : k ≤ n) : Its w A k c (l.take k) :=
  ⟨by rw [List.length_take, h.len]; omega, Nat.le_trans hk h.le, h.small, h.nil, fun ad e h0 => by
    obtain ⟨b, o, e2, hc⟩ := h.spot ad e (by omega)
    refine ⟨b, o, e2, fun j hj => ?_⟩
    rw [List.length_take] at hj
    rw [List.getElem_take]
    exact hc j (by omega)⟩
/-- What is left of a slice behind k items. -/
theorem Its.drop' {w : World} {A : Option Addr} {n c : Nat} {l : List Item} (h : Its w A n c l) (hA : ∀ ad, A = some ad → ∃ b, ad = ⟨b, 0, none⟩) (k : Nat) (hk : k ≤ n) : Its w (if c = k then A else A.map (·.add (k * 5))) (n - k) (c - k) (l.drop k) := by
  have hle := h.le
  have hsm := h.small
  have hln := h.len
  refine ⟨by rw [List.length_drop, hln], by omega, by omega, fun e => ?_, fun ad e h0 => ?_⟩
  · split at e
    · have := h.nil e; omega
    · cases A with
      | none => have := h.nil rfl; omega
      | some ad => cases e
  · rw [if_neg (by omega)] at e
    cases A with
    | none => cases e
    | some a2 =>
      obtain ⟨b, rfl⟩ := hA a2 rfl
      obtain ⟨b', o', e2, hc⟩ := h.spot _ rfl (by omega)
      cases e2
      refine ⟨b, 0 + k * 5, by have e3 := Option.some.inj e; rw [← e3]; exact add_off _ _ _, fun j hj => ?_⟩
      rw [List.length_drop] at hj
      rw [List.getElem_drop, show 0 + k * 5 + j * 5 = 0 + (k + j) * 5 by omega]
      exact hc (k + j) (by omega)
/-- What the one more item's slice is, beside the row's block. -/
def NewS (x : Item) (v : Value) (r : Option Nat) (w : World) : Prop := ∃ jb, v = .slice (some ⟨jb, 0, none⟩) 1 1 ∧ At w jb 0 x.cells ∧ jb < w.heap.size ∧ r ≠ some jb
theorem NewS.grow {x : Item} {v : Value} {r r' row : Option Nat} {w w' : World} (h : NewS x v r w) (hg : w.grownBy w' row) (hr : r' = r ∨ r' = some w.heap.size) (hrow : row = r := by rfl) : NewS x v r' w' := by
  obtain ⟨jb, h1, h2, h3, h4⟩ := h
  subst hrow
  refine ⟨jb, h1, fun k hk => ?_, Nat.lt_of_lt_of_le h3 hg.size, ?_⟩
  · rw [← h2 k hk]
    exact World.cell?_of_block (hg.block jb h3 (fun e => h4 e.symm))
  · rcases hr with rfl | rfl
    · exact h4
    · intro e
      have := Option.some.inj e
      omega
/-- What the row is, by what is done. -/
def RowS (B : Nat) (M : List Item) (x : Item) (j m : Nat) : Bool → Bool → Bool → Bool → Value → Value → Value → Value → World → Prop
  | _, _, _, true => fun _ _ _ v w => w.ownsRow B 24 5 v (j + 1 + (m - j)) ((M.take j).flatMap Item.cells ++ x.cells ++ (M.drop j).flatMap Item.cells)
  | _, _, true, false => fun _ _ v _ w => w.ownsRow B 24 5 v (j + 1) ((M.take j).flatMap Item.cells ++ x.cells)
  | _, true, false, false => fun _ v _ _ w => w.ownsRow B 24 5 v j ((M.take j).flatMap Item.cells)
  | true, false, false, false => fun v _ _ _ w => w.ownsRow B 24 5 v 0 []
  | false, false, false, false => fun _ _ _ _ _ => True
def rowB : Bool → Bool → Value → Value → Option Nat
  | _, true => fun _ v => v.ownBlock
  | true, false => fun v _ => v.ownBlock
  | false, false => fun _ _ => none
theorem RowS.alloc {B : Nat} {M : List Item} {x : Item} {j m : Nat} {z0 z4 z10 z14 : Bool} {v0 v4 v10 v14 : Value} {w : World} {o : Obj} (h : RowS B M x j m z0 z4 z10 z14 v0 v4 v10 v14 w) : RowS B M x j m z0 z4 z10 z14 v0 v4 v10 v14 (w.alloc o) := by
  cases z14 <;> cases z10 <;> cases z4 <;> cases z0 <;> first | exact trivial | exact World.ownsRow.alloc h o
theorem RowS.ne {B : Nat} {M : List Item} {x : Item} {j m : Nat} {z0 z4 : Bool} {v0 v4 v10 v14 : Value} {w : World} (h : RowS B M x j m z0 z4 false false v0 v4 v10 v14 w) : rowB z0 z4 v0 v4 ≠ some w.heap.size := by
  intro e
  cases z4 <;> cases z0
  · cases e
  · have := (World.ownsRow.lt (show w.ownsRow B 24 5 v0 0 [] from h) _ e).2; omega
  · have := (World.ownsRow.lt (show w.ownsRow B 24 5 v4 j ((M.take j).flatMap Item.cells) from h) _ e).2; omega
  · have := (World.ownsRow.lt (show w.ownsRow B 24 5 v4 j ((M.take j).flatMap Item.cells) from h) _ e).2; omega
/-- The stages of one item's going in. -/
def S19 (B : Nat) (M : List Item) (x : Item) (j m : Nat) (z0 z4 z9 z10 z14 : Bool) (v0 v4 v9 v10 v14 : Value) (w : World) : Prop :=
  RowS B M x j m z0 z4 z10 z14 v0 v4 v10 v14 w ∧ (z9 = true → z10 = false → NewS x v9 (rowB z0 z4 v0 v4) w)
theorem srt_le (L : List Item) : (srt L).length ≤ L.length := by rw [(srt_law L).2.2]; exact goes_le L
theorem pos_step {x : Item} {M : List Item} {m j : Nat} (hj : 0 < j) (h : pos x M m = pos x M j) : pos x M m = bif first x (nth M (j - 1)) then pos x M (j - 1) else j := by
  obtain ⟨k, rfl⟩ : ∃ k, j = k + 1 := ⟨j - 1, by omega⟩
  rw [h, Bool.cond_eq_ite]; rfl
def G19t (b o n c u g m c3 j : Nat) (x y : Item) (z : Bool) : Nat → Value → World → Prop
  | 0 => fun v _ => v = .int .i64 j
  | 1 => fun v _ => v = .bool true
  | 2 => fun v _ => v = .bool true
  | 3 => fun v _ => v = .slice (some ⟨b, o, none⟩) n c
  | 4 => fun v _ => v = .int .i64 u
  | 5 => fun v _ => v = .pointer (some ⟨b, o + u * 5, none⟩)
  | 6 => fun v _ => v = .agg x.cells.toArray
  | 7 => fun v _ => v = sl g m c3
  | 8 => fun v _ => v = .int .i64 j
  | 9 => fun v _ => v = .int .i64 (j - 1 : Nat)
  | 10 => fun v _ => v = .pointer (some ⟨g, (j - 1) * 5, none⟩)
  | 11 => fun v _ => v = .agg y.cells.toArray
  | 12 => fun v _ => v = .bool z
  | 13 => fun v _ => v = .bool z
  | _ => fun _ _ => True
theorem G19t_stable (b o n c u g m c3 j : Nat) (x y : Item) (z : Bool) : ∀ i v w w', G19t b o n c u g m c3 j x y z i v w → Below w.heap.size w w' → G19t b o n c u g m c3 j x y z i v w' := by
  intro i v w w' h hb
  match i, h with
  | 0, h => exact h
  | 1, h => exact h
  | 2, h => exact h
  | 3, h => exact h
  | 4, h => exact h
  | 5, h => exact h
  | 6, h => exact h
  | 7, h => exact h
  | 8, h => exact h
  | 9, h => exact h
  | 10, h => exact h
  | 11, h => exact h
  | 12, h => exact h
  | 13, h => exact h
  | _ + 14, _ => exact trivial
def G19f : Nat → Value → World → Prop
  | 0 => fun v _ => v = .int .i64 0
  | 1 => fun v _ => v = .bool false
  | 2 => fun v _ => v = .bool false
  | 3 => fun v _ => v = undef
  | 4 => fun v _ => v = undef
  | 5 => fun v _ => v = undef
  | 6 => fun v _ => v = undef
  | 7 => fun v _ => v = undef
  | 8 => fun v _ => v = undef
  | 9 => fun v _ => v = undef
  | 10 => fun v _ => v = undef
  | 11 => fun v _ => v = undef
  | 12 => fun v _ => v = undef
  | 13 => fun v _ => v = .bool false
  | _ => fun _ _ => True
theorem G19f_stable : ∀ i v w w', G19f  i v w → Below w.heap.size w w' → G19f  i v w' := by
  intro i v w w' h hb
  match i, h with
  | 0, h => exact h
  | 1, h => exact h
  | 2, h => exact h
  | 3, h => exact h
  | 4, h => exact h
  | 5, h => exact h
  | 6, h => exact h
  | 7, h => exact h
  | 8, h => exact h
  | 9, h => exact h
  | 10, h => exact h
  | 11, h => exact h
  | 12, h => exact h
  | 13, h => exact h
  | _ + 14, _ => exact trivial
def G19s (b o n c u m c3 j : Nat) (A3 A2 : Option Addr) (x : Item) : Nat → Value → World → Prop
  | 0 => fun _ _ => True
  | 1 => fun v _ => v = .slice A3 m c3
  | 2 => fun v _ => v = .int .i64 j
  | 3 => fun v _ => v = .slice A3 j c3
  | 4 => fun _ _ => True
  | 5 => fun v _ => v = .slice (some ⟨b, o, none⟩) n c
  | 6 => fun v _ => v = .int .i64 u
  | 7 => fun v _ => v = .pointer (some ⟨b, o + u * 5, none⟩)
  | 8 => fun v _ => v = .agg x.cells.toArray
  | 9 => fun _ _ => True
  | 10 => fun _ _ => True
  | 11 => fun v _ => v = .slice A3 m c3
  | 12 => fun v _ => v = .int .i64 j
  | 13 => fun v _ => v = .slice A2 (m - j) (c3 - j)
  | 14 => fun _ _ => True
  | _ => fun _ _ => True
theorem G19s_pure (b o n c u m c3 j : Nat) (A3 A2 : Option Addr) (x : Item) : ∀ i v w w', G19s b o n c u m c3 j A3 A2 x i v w → G19s b o n c u m c3 j A3 A2 x i v w' := by
  intro i v w w' h
  match i, h with
  | 0, h => exact h
  | 1, h => exact h
  | 2, h => exact h
  | 3, h => exact h
  | 4, h => exact h
  | 5, h => exact h
  | 6, h => exact h
  | 7, h => exact h
  | 8, h => exact h
  | 9, h => exact h
  | 10, h => exact h
  | 11, h => exact h
  | 12, h => exact h
  | 13, h => exact h
  | 14, h => exact h
  | _ + 15, _ => exact trivial
set_option maxRecDepth 100000 in
set_option maxHeartbeats 8000000 in
theorem refsort_any (A : Option Addr) (n c : Nat) (L : List Item) (w : World) (hE : Its w A n c L) (hn : n ≤ 10000) :
    Calls Try.prog 19 #[.slice A n c] w (SortPost w L) := by
  have HE := Lib.hid hE
  have HL := Lib.hid hE.len
  have hle := hE.le
  have hsm := hE.small
  clear hE
  go_enter Try.func19, Try.ntmps19
  go_wp2
  go_loopw [3, 4] (fun s3 s4 wr => ∃ u m : Nat, ∃ A3 c3, s4 = .int .i64 u ∧ s3 = .slice A3 m c3 ∧ u ≤ n ∧ OwnI wr w.heap.size (.slice A3 m c3) m (srt (L.take u)) ∧ Below w.heap.size w wr) (fun _ s4 _ => n - (intOf s4).toNat)
  case atStart => exact ⟨0, 0, none, 0, rfl, rfl, Nat.zero_le _, own_nil _ _, Below.refl _ _⟩
  case round =>
    obtain ⟨u, m, A3, c3, rfl, rfl, hi, hown, hb⟩ := hrel
    have OW := Lib.hid hown
    have BB := Lib.hid hb
    obtain ⟨M, hM⟩ : ∃ M, M = srt (L.take u) := ⟨_, rfl⟩
    have HMM := Lib.hid hM
    rw [← hM] at OW
    have hm : m ≤ u := by
      have h1 := srt_le (L.take u)
      rw [hown.len, List.length_take] at h1
      omega
    clear hown hM
    by_cases hlt : u < n
    · have hin : (u : Int) < n := by omega
      have hiL : u < L.length := by rw [HL.out]; exact hlt
      obtain ⟨ad, hAd⟩ : ∃ ad, A = some ad := by
        cases A with
        | none => have := HE.out.nil rfl; omega
        | some ad => exact ⟨ad, rfl⟩
      obtain ⟨b, o, rfl, hcells⟩ := (HE.out.below hb).spot ad hAd (by omega)
      subst hAd
      obtain ⟨x, hx⟩ : ∃ x, x = L[u] := ⟨_, rfl⟩
      have hat := hcells u hiL
      rw [← hx] at hat
      have HAT := Lib.hid hat
      have HII := Lib.hid (item_info x)
      have HNX : Hid (srt (L.take (u + 1)) = if stays x = true then M else ins x M) := Lib.hid (by rw [List.take_succ_eq_append_getElem hiL, srt_snoc, ← hx, HMM.out])
      clear hcells hat hx hb
      go_wp2_with (refine wpList_load_mid rfl 24 (.tmp 14) rfl b (o + u * 5) rfl x.cells _ HAT.out.range Try.underlying24 rfl HII.out ?_)
      refine (refright_any x wr).mono ?_
      rintro r W2 ⟨rfl, hb2⟩
      have hat2 := HAT.out.below hb2
      have c4 : W2.cell? ⟨b, o + u * 5 + 4, none⟩ = some (.bool x.pin) := hat2 4 (by rw [Item.cells_length]; decide)
      have HX := Lib.hid hat2
      have B2 := Lib.hid (below_trans BB.out hb2 BB.out.size)
      have OW2 := Lib.hid (OW.out.below hb2)
      obtain ⟨q, hq⟩ : ∃ q, q = right x := ⟨_, rfl⟩
      obtain ⟨p, hp⟩ : ∃ p, p = x.pin := ⟨_, rfl⟩
      have HS : Hid (stays x = (!q || p)) := Lib.hid (by rw [hq, hp]; rfl)
      rw [← hq]
      rw [← hp] at c4
      clear hat2 hb2 hq hp
      cases q with
      | false =>
        have HNX2 : Hid (srt (L.take (u + 1)) = M) := Lib.hid (by rw [HNX.out, if_pos (by rw [HS.out]; rfl)])
        go_wp2
        go_roundw
        case rel => exact ⟨u + 1, m, A3, c3, by go_num, rfl, by omega, by rw [HNX2.out]; exact OW2.out, B2.out⟩
        case measure => simp [intOf]; omega
      | true =>
      cases p with
      | true =>
        have HNX2 : Hid (srt (L.take (u + 1)) = M) := Lib.hid (by rw [HNX.out, if_pos (by rw [HS.out]; rfl)])
        go_wp2
        go_roundw
        case rel => exact ⟨u + 1, m, A3, c3, by go_num, rfl, by omega, by rw [HNX2.out]; exact OW2.out, B2.out⟩
        case measure => simp [intOf]; omega
      | false =>
      have HNX2 : Hid (srt (L.take (u + 1)) = ins x M) := Lib.hid (by rw [HNX.out, if_neg (by rw [HS.out]; decide)])
      obtain ⟨A9, c9, e9, hits, hA3⟩ := OW2.out.its
      cases e9
      have HI3 := Lib.hid hits
      have HA3 := Lib.hid hA3
      have ML := Lib.hid OW2.out.len
      have h3a := hits.le
      have h3b := hits.small
      clear hits hA3
      go_upto_block 2 with fail
      go_cut [5] from 6 to 43 (fun s5 wx => ∃ j : Nat, s5 = .int .i64 j ∧ j ≤ m ∧ pos x M m = j ∧ Below W2.heap.size W2 wx)
      case first =>
        go_wp2_with fail
        go_loopw [5] (fun s5 wr => ∃ j : Nat, s5 = .int .i64 j ∧ j ≤ m ∧ pos x M m = pos x M j ∧ Below W2.heap.size W2 wr) (fun s5 _ => (intOf s5).toNat)
        case atStart => exact ⟨m, rfl, Nat.le_refl _, rfl, Below.refl _ _⟩
        case round =>
          obtain ⟨j, rfl, hj, hpos, hb3⟩ := hrel
          have B3 := Lib.hid hb3
          have HP := Lib.hid hpos
          clear hpos
          by_cases hj0 : 0 < j
          · obtain ⟨ad, hAd⟩ : ∃ ad, A3 = some ad := by
              cases A3 with
              | none => have := HI3.out.nil rfl; have := HI3.out.le; omega
              | some ad => exact ⟨ad, rfl⟩
            subst hAd
            obtain ⟨g, rfl, _⟩ := HA3.out ad rfl
            obtain ⟨y, hy⟩ : ∃ y, y = nth M (j - 1) := ⟨_, rfl⟩
            have HY := Lib.hid (show At wr g ((j - 1) * 5) y.cells by rw [hy, nth_eq (by rw [ML.out]; omega)]; exact (OW2.out.below hb3).at _)
            have HX := Lib.hid (HX.out.below hb3)
            have HPS := Lib.hid (pos_step hj0 HP.out)
            rw [← hy] at HPS
            obtain ⟨z, hz⟩ : ∃ z, z = first x y := ⟨_, rfl⟩
            rw [← hz] at HPS
            have HZ := Lib.hid hz
            clear hy hz hb3
            go_wp2_with fail
            refine Flow.wp_region_flow (by kernel_rfl) (G19t b o n c u g m c3 j x y z) (by kernel_rfl) (G19t_stable b o n c u g m c3 j x y z) ?loc ?fin
            case loc =>
              intro i o ho a w hw hk
              match i, ho with
              | 0, ho =>
                have ho2 := Option.some.inj ho; clear ho; subst ho2
                have r5 : a.tmps.getD 5 undef = .int .i64 j := (hk 5 (Flow.mem_looks (by kernel_rfl))).before (by kernel_rfl)
                rw [if_pos (Flow.wanted_free rfl _)]
                refine Flow.step_value (v := .int .i64 j) ?_ ⟨Below.refl _ _, rfl⟩
                simp [execOp, Act.eval, r5, go_sem]
              | 1, ho =>
                have ho2 := Option.some.inj ho; clear ho; subst ho2
                have r27 : a.tmps.getD 27 undef = .int .i64 j := (hk 27 (Flow.mem_looks (by kernel_rfl))).by_ 0 (by kernel_rfl) (by decide)
                rw [if_pos (Flow.wanted_free rfl _)]
                refine Flow.step_value (v := .bool true) ?_ ⟨Below.refl _ _, rfl⟩
                simp [execOp, Act.eval, r27, go_sem]
                omega
              | 2, ho =>
                have ho2 := Option.some.inj ho; clear ho; subst ho2
                have r28 : a.tmps.getD 28 undef = .bool true := (hk 28 (Flow.mem_looks (by kernel_rfl))).by_ 1 (by kernel_rfl) (by decide)
                rw [if_pos (Flow.wanted_free rfl _)]
                refine Flow.step_value (v := .bool true) ?_ ⟨Below.refl _ _, rfl⟩
                simp [execOp, Act.eval, r28, go_sem]
              | 3, ho =>
                have ho2 := Option.some.inj ho; clear ho; subst ho2
                have r0 : a.tmps.getD 0 undef = .slice (some ⟨b, o, none⟩) n c := (hk 0 (Flow.mem_looks (by kernel_rfl))).before (by kernel_rfl)
                have r29 : a.tmps.getD 29 undef = .bool true := (hk 29 (Flow.mem_looks (by kernel_rfl))).by_ 2 (by kernel_rfl) (by decide)
                rw [if_pos (Flow.wanted_by (t := 29) rfl (by kernel_rfl) r29)]
                refine Flow.step_value (v := .slice (some ⟨b, o, none⟩) n c) ?_ ⟨Below.refl _ _, rfl⟩
                simp [execOp, Act.eval, r0, go_sem]
              | 4, ho =>
                have ho2 := Option.some.inj ho; clear ho; subst ho2
                have r4 : a.tmps.getD 4 undef = .int .i64 u := (hk 4 (Flow.mem_looks (by kernel_rfl))).before (by kernel_rfl)
                have r29 : a.tmps.getD 29 undef = .bool true := (hk 29 (Flow.mem_looks (by kernel_rfl))).by_ 2 (by kernel_rfl) (by decide)
                rw [if_pos (Flow.wanted_by (t := 29) rfl (by kernel_rfl) r29)]
                refine Flow.step_value (v := .int .i64 u) ?_ ⟨Below.refl _ _, rfl⟩
                simp [execOp, Act.eval, r4, go_sem]
              | 5, ho =>
                have ho2 := Option.some.inj ho; clear ho; subst ho2
                have r30 : a.tmps.getD 30 undef = .slice (some ⟨b, o, none⟩) n c := (hk 30 (Flow.mem_looks (by kernel_rfl))).by_ 3 (by kernel_rfl) (by decide)
                have r31 : a.tmps.getD 31 undef = .int .i64 u := (hk 31 (Flow.mem_looks (by kernel_rfl))).by_ 4 (by kernel_rfl) (by decide)
                have r29 : a.tmps.getD 29 undef = .bool true := (hk 29 (Flow.mem_looks (by kernel_rfl))).by_ 2 (by kernel_rfl) (by decide)
                rw [if_pos (Flow.wanted_by (t := 29) rfl (by kernel_rfl) r29)]
                refine Flow.step_value (v := .pointer (some ⟨b, o + u * 5, none⟩)) ?_ ⟨Below.refl _ _, rfl⟩
                simp [execOp, Act.eval, r30, r31, hin, add_off, go_sem]
              | 6, ho =>
                have ho2 := Option.some.inj ho; clear ho; subst ho2
                have r32 : a.tmps.getD 32 undef = .pointer (some ⟨b, o + u * 5, none⟩) := (hk 32 (Flow.mem_looks (by kernel_rfl))).by_ 5 (by kernel_rfl) (by decide)
                have r29 : a.tmps.getD 29 undef = .bool true := (hk 29 (Flow.mem_looks (by kernel_rfl))).by_ 2 (by kernel_rfl) (by decide)
                rw [if_pos (Flow.wanted_by (t := 29) rfl (by kernel_rfl) r29)]
                refine step_load_mid 24 (.tmp 32) rfl b (o + u * 5) r32 x.cells _ (HX.out.below hw).range Try.underlying24 rfl (item_info x) ⟨Below.refl _ _, rfl⟩
              | 7, ho =>
                have ho2 := Option.some.inj ho; clear ho; subst ho2
                have r3 : a.tmps.getD 3 undef = sl g m c3 := (hk 3 (Flow.mem_looks (by kernel_rfl))).before (by kernel_rfl)
                have r29 : a.tmps.getD 29 undef = .bool true := (hk 29 (Flow.mem_looks (by kernel_rfl))).by_ 2 (by kernel_rfl) (by decide)
                rw [if_pos (Flow.wanted_by (t := 29) rfl (by kernel_rfl) r29)]
                refine Flow.step_value (v := sl g m c3) ?_ ⟨Below.refl _ _, rfl⟩
                simp [execOp, Act.eval, r3, go_sem]
              | 8, ho =>
                have ho2 := Option.some.inj ho; clear ho; subst ho2
                have r5 : a.tmps.getD 5 undef = .int .i64 j := (hk 5 (Flow.mem_looks (by kernel_rfl))).before (by kernel_rfl)
                have r29 : a.tmps.getD 29 undef = .bool true := (hk 29 (Flow.mem_looks (by kernel_rfl))).by_ 2 (by kernel_rfl) (by decide)
                rw [if_pos (Flow.wanted_by (t := 29) rfl (by kernel_rfl) r29)]
                refine Flow.step_value (v := .int .i64 j) ?_ ⟨Below.refl _ _, rfl⟩
                simp [execOp, Act.eval, r5, go_sem]
              | 9, ho =>
                have ho2 := Option.some.inj ho; clear ho; subst ho2
                have r35 : a.tmps.getD 35 undef = .int .i64 j := (hk 35 (Flow.mem_looks (by kernel_rfl))).by_ 8 (by kernel_rfl) (by decide)
                have r29 : a.tmps.getD 29 undef = .bool true := (hk 29 (Flow.mem_looks (by kernel_rfl))).by_ 2 (by kernel_rfl) (by decide)
                rw [if_pos (Flow.wanted_by (t := 29) rfl (by kernel_rfl) r29)]
                refine step_sub (.tmp 35) (.const (.int .i64 1)) rfl j 1 (j - 1) r35 rfl rfl (by omega) (by omega) ⟨Below.refl _ _, rfl⟩
              | 10, ho =>
                have ho2 := Option.some.inj ho; clear ho; subst ho2
                have r34 : a.tmps.getD 34 undef = sl g m c3 := (hk 34 (Flow.mem_looks (by kernel_rfl))).by_ 7 (by kernel_rfl) (by decide)
                have r36 : a.tmps.getD 36 undef = .int .i64 (j - 1 : Nat) := (hk 36 (Flow.mem_looks (by kernel_rfl))).by_ 9 (by kernel_rfl) (by decide)
                have r29 : a.tmps.getD 29 undef = .bool true := (hk 29 (Flow.mem_looks (by kernel_rfl))).by_ 2 (by kernel_rfl) (by decide)
                rw [if_pos (Flow.wanted_by (t := 29) rfl (by kernel_rfl) r29)]
                refine step_index (.tmp 34) (.tmp 36) rfl g m c3 (j - 1) r34 r36 (by omega) ⟨Below.refl _ _, rfl⟩
              | 11, ho =>
                have ho2 := Option.some.inj ho; clear ho; subst ho2
                have r37 : a.tmps.getD 37 undef = .pointer (some ⟨g, (j - 1) * 5, none⟩) := (hk 37 (Flow.mem_looks (by kernel_rfl))).by_ 10 (by kernel_rfl) (by decide)
                have r29 : a.tmps.getD 29 undef = .bool true := (hk 29 (Flow.mem_looks (by kernel_rfl))).by_ 2 (by kernel_rfl) (by decide)
                rw [if_pos (Flow.wanted_by (t := 29) rfl (by kernel_rfl) r29)]
                refine step_load_mid 24 (.tmp 37) rfl g ((j - 1) * 5) r37 y.cells _ (HY.out.below hw).range Try.underlying24 rfl (item_info y) ⟨Below.refl _ _, rfl⟩
              | 12, ho =>
                have ho2 := Option.some.inj ho; clear ho; subst ho2
                have r33 : a.tmps.getD 33 undef = .agg x.cells.toArray := (hk 33 (Flow.mem_looks (by kernel_rfl))).by_ 6 (by kernel_rfl) (by decide)
                have r38 : a.tmps.getD 38 undef = .agg y.cells.toArray := (hk 38 (Flow.mem_looks (by kernel_rfl))).by_ 11 (by kernel_rfl) (by decide)
                have r29 : a.tmps.getD 29 undef = .bool true := (hk 29 (Flow.mem_looks (by kernel_rfl))).by_ 2 (by kernel_rfl) (by decide)
                rw [if_pos (Flow.wanted_by (t := 29) rfl (by kernel_rfl) r29)]
                refine Flow.step_call (f := 16) (args := #[.agg x.cells.toArray, .agg y.cells.toArray]) (by simp [execOp, Act.eval, r33, r38, go_sem]) ?_
                refine (reffirst_any x y w).mono ?_
                rintro r w1 ⟨rfl, hb1⟩
                exact ⟨_, rfl, hb1, by rw [← HZ.out]; rfl⟩
              | 13, ho =>
                have ho2 := Option.some.inj ho; clear ho; subst ho2
                have r29 : a.tmps.getD 29 undef = .bool true := (hk 29 (Flow.mem_looks (by kernel_rfl))).by_ 2 (by kernel_rfl) (by decide)
                have r39 : a.tmps.getD 39 undef = .bool z := (hk 39 (Flow.mem_looks (by kernel_rfl))).by_ 12 (by kernel_rfl) (by decide)
                rw [if_pos (Flow.wanted_free rfl _)]
                refine Flow.step_value (v := .bool z) ?_ ⟨Below.refl _ _, rfl⟩
                simp [execOp, Act.eval, r29, r39, go_sem]
              | _ + 14, ho => exact absurd ho (by simp)
            case fin =>
              intro a4 w4 hw4 hd4 hs4 hg hold
              have ea := Flow.act_eq (a := a4) [.slice (some ⟨b, o, none⟩) n c, undef, .slice none 0 0, .slice (some ⟨g, 0, none⟩) m c3, .int .i64 u, .int .i64 j, .int .i64 u, .slice (some ⟨b, o, none⟩) n c, .int .i64 n, .bool true, u10, u11, .slice (some ⟨b, o, none⟩) n c, .int .i64 u, .pointer (some ⟨b, o + u * 5, none⟩), .agg x.cells.toArray, .bool true, .bool false, .bool false, .slice (some ⟨b, o, none⟩) n c, .int .i64 u, .pointer (some ⟨b, o + u * 5, none⟩), .pointer (some ⟨b, o + u * 5 + 4, none⟩), .bool false, .bool false, .slice (some ⟨g, 0, none⟩) m c3, .int .i64 m, a4.tmps.getD 27 undef, a4.tmps.getD 28 undef, a4.tmps.getD 29 undef, a4.tmps.getD 30 undef, a4.tmps.getD 31 undef, a4.tmps.getD 32 undef, a4.tmps.getD 33 undef, a4.tmps.getD 34 undef, a4.tmps.getD 35 undef, a4.tmps.getD 36 undef, a4.tmps.getD 37 undef, a4.tmps.getD 38 undef, a4.tmps.getD 39 undef, .bool z, a4.tmps.getD 41 undef, a4.tmps.getD 42 undef, u43, u44, u45, u46, u47, u48, u49, u50, u51, u52, u53, u54, u55, u56, u57, undef] hs4 hd4 (by
                intro t ht
                match t, ht with
                | 0, _ => exact Flow.old_at hold 0 (by kernel_rfl)
                | 1, _ => exact Flow.old_at hold 1 (by kernel_rfl)
                | 2, _ => exact Flow.old_at hold 2 (by kernel_rfl)
                | 3, _ => exact Flow.old_at hold 3 (by kernel_rfl)
                | 4, _ => exact Flow.old_at hold 4 (by kernel_rfl)
                | 5, _ => exact Flow.old_at hold 5 (by kernel_rfl)
                | 6, _ => exact Flow.old_at hold 6 (by kernel_rfl)
                | 7, _ => exact Flow.old_at hold 7 (by kernel_rfl)
                | 8, _ => exact Flow.old_at hold 8 (by kernel_rfl)
                | 9, _ => exact Flow.old_at hold 9 (by kernel_rfl)
                | 10, _ => exact Flow.old_at hold 10 (by kernel_rfl)
                | 11, _ => exact Flow.old_at hold 11 (by kernel_rfl)
                | 12, _ => exact Flow.old_at hold 12 (by kernel_rfl)
                | 13, _ => exact Flow.old_at hold 13 (by kernel_rfl)
                | 14, _ => exact Flow.old_at hold 14 (by kernel_rfl)
                | 15, _ => exact Flow.old_at hold 15 (by kernel_rfl)
                | 16, _ => exact Flow.old_at hold 16 (by kernel_rfl)
                | 17, _ => exact Flow.old_at hold 17 (by kernel_rfl)
                | 18, _ => exact Flow.old_at hold 18 (by kernel_rfl)
                | 19, _ => exact Flow.old_at hold 19 (by kernel_rfl)
                | 20, _ => exact Flow.old_at hold 20 (by kernel_rfl)
                | 21, _ => exact Flow.old_at hold 21 (by kernel_rfl)
                | 22, _ => exact Flow.old_at hold 22 (by kernel_rfl)
                | 23, _ => exact Flow.old_at hold 23 (by kernel_rfl)
                | 24, _ => exact Flow.old_at hold 24 (by kernel_rfl)
                | 25, _ => exact Flow.old_at hold 25 (by kernel_rfl)
                | 26, _ => exact Flow.old_at hold 26 (by kernel_rfl)
                | 27, _ => exact rfl
                | 28, _ => exact rfl
                | 29, _ => exact rfl
                | 30, _ => exact rfl
                | 31, _ => exact rfl
                | 32, _ => exact rfl
                | 33, _ => exact rfl
                | 34, _ => exact rfl
                | 35, _ => exact rfl
                | 36, _ => exact rfl
                | 37, _ => exact rfl
                | 38, _ => exact rfl
                | 39, _ => exact rfl
                | 40, _ => exact hg 13 _ 40 rfl rfl
                | 41, _ => exact rfl
                | 42, _ => exact rfl
                | 43, _ => exact Flow.old_at hold 43 (by kernel_rfl)
                | 44, _ => exact Flow.old_at hold 44 (by kernel_rfl)
                | 45, _ => exact Flow.old_at hold 45 (by kernel_rfl)
                | 46, _ => exact Flow.old_at hold 46 (by kernel_rfl)
                | 47, _ => exact Flow.old_at hold 47 (by kernel_rfl)
                | 48, _ => exact Flow.old_at hold 48 (by kernel_rfl)
                | 49, _ => exact Flow.old_at hold 49 (by kernel_rfl)
                | 50, _ => exact Flow.old_at hold 50 (by kernel_rfl)
                | 51, _ => exact Flow.old_at hold 51 (by kernel_rfl)
                | 52, _ => exact Flow.old_at hold 52 (by kernel_rfl)
                | 53, _ => exact Flow.old_at hold 53 (by kernel_rfl)
                | 54, _ => exact Flow.old_at hold 54 (by kernel_rfl)
                | 55, _ => exact Flow.old_at hold 55 (by kernel_rfl)
                | 56, _ => exact Flow.old_at hold 56 (by kernel_rfl)
                | 57, _ => exact Flow.old_at hold 57 (by kernel_rfl)
                | 58, _ => exact Flow.old_at hold 58 (by kernel_rfl)
                | t + 59, ht => exact absurd ht (by simp))
              rw [ea]
              generalize a4.tmps.getD 27 undef = z27
              generalize a4.tmps.getD 28 undef = z28
              generalize a4.tmps.getD 29 undef = z29
              generalize a4.tmps.getD 30 undef = z30
              generalize a4.tmps.getD 31 undef = z31
              generalize a4.tmps.getD 32 undef = z32
              generalize a4.tmps.getD 33 undef = z33
              generalize a4.tmps.getD 34 undef = z34
              generalize a4.tmps.getD 35 undef = z35
              generalize a4.tmps.getD 36 undef = z36
              generalize a4.tmps.getD 37 undef = z37
              generalize a4.tmps.getD 38 undef = z38
              generalize a4.tmps.getD 39 undef = z39
              generalize a4.tmps.getD 41 undef = z41
              generalize a4.tmps.getD 42 undef = z42
              clear ea
              have B4 := Lib.hid (below_trans B3.out hw4 B3.out.size)
              clear hd4 hs4 hg hold hw4
              refine (‹∀ (a : Act) (w : World), Code.wp _ _ _ a w → _›) _ _ ?_
              cases z with
              | false =>
                go_wp2
                go_meet
                case rel => exact ⟨j, rfl, hj, HPS.out, B4.out⟩
              | true =>
                go_wp2
                go_roundw
                case rel => exact ⟨j - 1, by go_num, by omega, HPS.out, B4.out⟩
                case measure => simp [intOf]; omega
          · obtain rfl : j = 0 := by omega
            clear hb3
            go_wp2_with fail
            refine Flow.wp_region_flow (by kernel_rfl) (G19f ) (by kernel_rfl) (G19f_stable ) ?loc ?fin
            case loc =>
              intro i o ho a w hw hk
              match i, ho with
              | 0, ho =>
                have ho2 := Option.some.inj ho; clear ho; subst ho2
                have r5 : a.tmps.getD 5 undef = .int .i64 0 := (hk 5 (Flow.mem_looks (by kernel_rfl))).before (by kernel_rfl)
                rw [if_pos (Flow.wanted_free rfl _)]
                refine Flow.step_value (v := .int .i64 0) ?_ ⟨Below.refl _ _, rfl⟩
                simp [execOp, Act.eval, r5, go_sem]
              | 1, ho =>
                have ho2 := Option.some.inj ho; clear ho; subst ho2
                have r27 : a.tmps.getD 27 undef = .int .i64 0 := (hk 27 (Flow.mem_looks (by kernel_rfl))).by_ 0 (by kernel_rfl) (by decide)
                rw [if_pos (Flow.wanted_free rfl _)]
                refine Flow.step_value (v := .bool false) ?_ ⟨Below.refl _ _, rfl⟩
                simp [execOp, Act.eval, r27, go_sem]
              | 2, ho =>
                have ho2 := Option.some.inj ho; clear ho; subst ho2
                have r28 : a.tmps.getD 28 undef = .bool false := (hk 28 (Flow.mem_looks (by kernel_rfl))).by_ 1 (by kernel_rfl) (by decide)
                rw [if_pos (Flow.wanted_free rfl _)]
                refine Flow.step_value (v := .bool false) ?_ ⟨Below.refl _ _, rfl⟩
                simp [execOp, Act.eval, r28, go_sem]
              | 3, ho =>
                have ho2 := Option.some.inj ho; clear ho; subst ho2
                have r0 : a.tmps.getD 0 undef = .slice (some ⟨b, o, none⟩) n c := (hk 0 (Flow.mem_looks (by kernel_rfl))).before (by kernel_rfl)
                have r29 : a.tmps.getD 29 undef = .bool false := (hk 29 (Flow.mem_looks (by kernel_rfl))).by_ 2 (by kernel_rfl) (by decide)
                rw [if_neg (by rw [Flow.unwanted_by rfl (t := 29) (by kernel_rfl) r29]; decide)]
                exact rfl
              | 4, ho =>
                have ho2 := Option.some.inj ho; clear ho; subst ho2
                have r4 : a.tmps.getD 4 undef = .int .i64 u := (hk 4 (Flow.mem_looks (by kernel_rfl))).before (by kernel_rfl)
                have r29 : a.tmps.getD 29 undef = .bool false := (hk 29 (Flow.mem_looks (by kernel_rfl))).by_ 2 (by kernel_rfl) (by decide)
                rw [if_neg (by rw [Flow.unwanted_by rfl (t := 29) (by kernel_rfl) r29]; decide)]
                exact rfl
              | 5, ho =>
                have ho2 := Option.some.inj ho; clear ho; subst ho2
                have r30 : a.tmps.getD 30 undef = undef := (hk 30 (Flow.mem_looks (by kernel_rfl))).by_ 3 (by kernel_rfl) (by decide)
                have r31 : a.tmps.getD 31 undef = undef := (hk 31 (Flow.mem_looks (by kernel_rfl))).by_ 4 (by kernel_rfl) (by decide)
                have r29 : a.tmps.getD 29 undef = .bool false := (hk 29 (Flow.mem_looks (by kernel_rfl))).by_ 2 (by kernel_rfl) (by decide)
                rw [if_neg (by rw [Flow.unwanted_by rfl (t := 29) (by kernel_rfl) r29]; decide)]
                exact rfl
              | 6, ho =>
                have ho2 := Option.some.inj ho; clear ho; subst ho2
                have r32 : a.tmps.getD 32 undef = undef := (hk 32 (Flow.mem_looks (by kernel_rfl))).by_ 5 (by kernel_rfl) (by decide)
                have r29 : a.tmps.getD 29 undef = .bool false := (hk 29 (Flow.mem_looks (by kernel_rfl))).by_ 2 (by kernel_rfl) (by decide)
                rw [if_neg (by rw [Flow.unwanted_by rfl (t := 29) (by kernel_rfl) r29]; decide)]
                exact rfl
              | 7, ho =>
                have ho2 := Option.some.inj ho; clear ho; subst ho2
                have r3 : a.tmps.getD 3 undef = .slice A3 m c3 := (hk 3 (Flow.mem_looks (by kernel_rfl))).before (by kernel_rfl)
                have r29 : a.tmps.getD 29 undef = .bool false := (hk 29 (Flow.mem_looks (by kernel_rfl))).by_ 2 (by kernel_rfl) (by decide)
                rw [if_neg (by rw [Flow.unwanted_by rfl (t := 29) (by kernel_rfl) r29]; decide)]
                exact rfl
              | 8, ho =>
                have ho2 := Option.some.inj ho; clear ho; subst ho2
                have r5 : a.tmps.getD 5 undef = .int .i64 0 := (hk 5 (Flow.mem_looks (by kernel_rfl))).before (by kernel_rfl)
                have r29 : a.tmps.getD 29 undef = .bool false := (hk 29 (Flow.mem_looks (by kernel_rfl))).by_ 2 (by kernel_rfl) (by decide)
                rw [if_neg (by rw [Flow.unwanted_by rfl (t := 29) (by kernel_rfl) r29]; decide)]
                exact rfl
              | 9, ho =>
                have ho2 := Option.some.inj ho; clear ho; subst ho2
                have r35 : a.tmps.getD 35 undef = undef := (hk 35 (Flow.mem_looks (by kernel_rfl))).by_ 8 (by kernel_rfl) (by decide)
                have r29 : a.tmps.getD 29 undef = .bool false := (hk 29 (Flow.mem_looks (by kernel_rfl))).by_ 2 (by kernel_rfl) (by decide)
                rw [if_neg (by rw [Flow.unwanted_by rfl (t := 29) (by kernel_rfl) r29]; decide)]
                exact rfl
              | 10, ho =>
                have ho2 := Option.some.inj ho; clear ho; subst ho2
                have r34 : a.tmps.getD 34 undef = undef := (hk 34 (Flow.mem_looks (by kernel_rfl))).by_ 7 (by kernel_rfl) (by decide)
                have r36 : a.tmps.getD 36 undef = undef := (hk 36 (Flow.mem_looks (by kernel_rfl))).by_ 9 (by kernel_rfl) (by decide)
                have r29 : a.tmps.getD 29 undef = .bool false := (hk 29 (Flow.mem_looks (by kernel_rfl))).by_ 2 (by kernel_rfl) (by decide)
                rw [if_neg (by rw [Flow.unwanted_by rfl (t := 29) (by kernel_rfl) r29]; decide)]
                exact rfl
              | 11, ho =>
                have ho2 := Option.some.inj ho; clear ho; subst ho2
                have r37 : a.tmps.getD 37 undef = undef := (hk 37 (Flow.mem_looks (by kernel_rfl))).by_ 10 (by kernel_rfl) (by decide)
                have r29 : a.tmps.getD 29 undef = .bool false := (hk 29 (Flow.mem_looks (by kernel_rfl))).by_ 2 (by kernel_rfl) (by decide)
                rw [if_neg (by rw [Flow.unwanted_by rfl (t := 29) (by kernel_rfl) r29]; decide)]
                exact rfl
              | 12, ho =>
                have ho2 := Option.some.inj ho; clear ho; subst ho2
                have r33 : a.tmps.getD 33 undef = undef := (hk 33 (Flow.mem_looks (by kernel_rfl))).by_ 6 (by kernel_rfl) (by decide)
                have r38 : a.tmps.getD 38 undef = undef := (hk 38 (Flow.mem_looks (by kernel_rfl))).by_ 11 (by kernel_rfl) (by decide)
                have r29 : a.tmps.getD 29 undef = .bool false := (hk 29 (Flow.mem_looks (by kernel_rfl))).by_ 2 (by kernel_rfl) (by decide)
                rw [if_neg (by rw [Flow.unwanted_by rfl (t := 29) (by kernel_rfl) r29]; decide)]
                exact rfl
              | 13, ho =>
                have ho2 := Option.some.inj ho; clear ho; subst ho2
                have r29 : a.tmps.getD 29 undef = .bool false := (hk 29 (Flow.mem_looks (by kernel_rfl))).by_ 2 (by kernel_rfl) (by decide)
                have r39 : a.tmps.getD 39 undef = undef := (hk 39 (Flow.mem_looks (by kernel_rfl))).by_ 12 (by kernel_rfl) (by decide)
                rw [if_pos (Flow.wanted_free rfl _)]
                refine Flow.step_value (v := .bool false) ?_ ⟨Below.refl _ _, rfl⟩
                simp [execOp, Act.eval, r29, r39, go_sem]
              | _ + 14, ho => exact absurd ho (by simp)
            case fin =>
              intro a4 w4 hw4 hd4 hs4 hg hold
              have ea := Flow.act_eq (a := a4) [.slice (some ⟨b, o, none⟩) n c, undef, .slice none 0 0, .slice A3 m c3, .int .i64 u, .int .i64 0, .int .i64 u, .slice (some ⟨b, o, none⟩) n c, .int .i64 n, .bool true, u10, u11, .slice (some ⟨b, o, none⟩) n c, .int .i64 u, .pointer (some ⟨b, o + u * 5, none⟩), .agg x.cells.toArray, .bool true, .bool false, .bool false, .slice (some ⟨b, o, none⟩) n c, .int .i64 u, .pointer (some ⟨b, o + u * 5, none⟩), .pointer (some ⟨b, o + u * 5 + 4, none⟩), .bool false, .bool false, .slice A3 m c3, .int .i64 m, a4.tmps.getD 27 undef, a4.tmps.getD 28 undef, a4.tmps.getD 29 undef, a4.tmps.getD 30 undef, a4.tmps.getD 31 undef, a4.tmps.getD 32 undef, a4.tmps.getD 33 undef, a4.tmps.getD 34 undef, a4.tmps.getD 35 undef, a4.tmps.getD 36 undef, a4.tmps.getD 37 undef, a4.tmps.getD 38 undef, a4.tmps.getD 39 undef, .bool false, a4.tmps.getD 41 undef, a4.tmps.getD 42 undef, u43, u44, u45, u46, u47, u48, u49, u50, u51, u52, u53, u54, u55, u56, u57, undef] hs4 hd4 (by
                intro t ht
                match t, ht with
                | 0, _ => exact Flow.old_at hold 0 (by kernel_rfl)
                | 1, _ => exact Flow.old_at hold 1 (by kernel_rfl)
                | 2, _ => exact Flow.old_at hold 2 (by kernel_rfl)
                | 3, _ => exact Flow.old_at hold 3 (by kernel_rfl)
                | 4, _ => exact Flow.old_at hold 4 (by kernel_rfl)
                | 5, _ => exact Flow.old_at hold 5 (by kernel_rfl)
                | 6, _ => exact Flow.old_at hold 6 (by kernel_rfl)
                | 7, _ => exact Flow.old_at hold 7 (by kernel_rfl)
                | 8, _ => exact Flow.old_at hold 8 (by kernel_rfl)
                | 9, _ => exact Flow.old_at hold 9 (by kernel_rfl)
                | 10, _ => exact Flow.old_at hold 10 (by kernel_rfl)
                | 11, _ => exact Flow.old_at hold 11 (by kernel_rfl)
                | 12, _ => exact Flow.old_at hold 12 (by kernel_rfl)
                | 13, _ => exact Flow.old_at hold 13 (by kernel_rfl)
                | 14, _ => exact Flow.old_at hold 14 (by kernel_rfl)
                | 15, _ => exact Flow.old_at hold 15 (by kernel_rfl)
                | 16, _ => exact Flow.old_at hold 16 (by kernel_rfl)
                | 17, _ => exact Flow.old_at hold 17 (by kernel_rfl)
                | 18, _ => exact Flow.old_at hold 18 (by kernel_rfl)
                | 19, _ => exact Flow.old_at hold 19 (by kernel_rfl)
                | 20, _ => exact Flow.old_at hold 20 (by kernel_rfl)
                | 21, _ => exact Flow.old_at hold 21 (by kernel_rfl)
                | 22, _ => exact Flow.old_at hold 22 (by kernel_rfl)
                | 23, _ => exact Flow.old_at hold 23 (by kernel_rfl)
                | 24, _ => exact Flow.old_at hold 24 (by kernel_rfl)
                | 25, _ => exact Flow.old_at hold 25 (by kernel_rfl)
                | 26, _ => exact Flow.old_at hold 26 (by kernel_rfl)
                | 27, _ => exact rfl
                | 28, _ => exact rfl
                | 29, _ => exact rfl
                | 30, _ => exact rfl
                | 31, _ => exact rfl
                | 32, _ => exact rfl
                | 33, _ => exact rfl
                | 34, _ => exact rfl
                | 35, _ => exact rfl
                | 36, _ => exact rfl
                | 37, _ => exact rfl
                | 38, _ => exact rfl
                | 39, _ => exact rfl
                | 40, _ => exact hg 13 _ 40 rfl rfl
                | 41, _ => exact rfl
                | 42, _ => exact rfl
                | 43, _ => exact Flow.old_at hold 43 (by kernel_rfl)
                | 44, _ => exact Flow.old_at hold 44 (by kernel_rfl)
                | 45, _ => exact Flow.old_at hold 45 (by kernel_rfl)
                | 46, _ => exact Flow.old_at hold 46 (by kernel_rfl)
                | 47, _ => exact Flow.old_at hold 47 (by kernel_rfl)
                | 48, _ => exact Flow.old_at hold 48 (by kernel_rfl)
                | 49, _ => exact Flow.old_at hold 49 (by kernel_rfl)
                | 50, _ => exact Flow.old_at hold 50 (by kernel_rfl)
                | 51, _ => exact Flow.old_at hold 51 (by kernel_rfl)
                | 52, _ => exact Flow.old_at hold 52 (by kernel_rfl)
                | 53, _ => exact Flow.old_at hold 53 (by kernel_rfl)
                | 54, _ => exact Flow.old_at hold 54 (by kernel_rfl)
                | 55, _ => exact Flow.old_at hold 55 (by kernel_rfl)
                | 56, _ => exact Flow.old_at hold 56 (by kernel_rfl)
                | 57, _ => exact Flow.old_at hold 57 (by kernel_rfl)
                | 58, _ => exact Flow.old_at hold 58 (by kernel_rfl)
                | t + 59, ht => exact absurd ht (by simp))
              rw [ea]
              generalize a4.tmps.getD 27 undef = z27
              generalize a4.tmps.getD 28 undef = z28
              generalize a4.tmps.getD 29 undef = z29
              generalize a4.tmps.getD 30 undef = z30
              generalize a4.tmps.getD 31 undef = z31
              generalize a4.tmps.getD 32 undef = z32
              generalize a4.tmps.getD 33 undef = z33
              generalize a4.tmps.getD 34 undef = z34
              generalize a4.tmps.getD 35 undef = z35
              generalize a4.tmps.getD 36 undef = z36
              generalize a4.tmps.getD 37 undef = z37
              generalize a4.tmps.getD 38 undef = z38
              generalize a4.tmps.getD 39 undef = z39
              generalize a4.tmps.getD 41 undef = z41
              generalize a4.tmps.getD 42 undef = z42
              clear ea
              have B4 := Lib.hid (below_trans B3.out hw4 B3.out.size)
              clear hd4 hs4 hg hold hw4
              refine (‹∀ (a : Act) (w : World), Code.wp _ _ _ a w → _›) _ _ ?_
              go_wp2
              go_meet
              case rel => exact ⟨0, rfl, hj, HP.out, B4.out⟩
      case rest =>
        obtain ⟨j, rfl, hj, hpos, hb5⟩ := hcut
        have HP := Lib.hid hpos
        have HJ := Lib.hid hj
        have hjm : (j : Int) ≤ m := by omega
        have hjc : (j : Int) ≤ c3 := by omega
        have hmc : (m : Int) ≤ c3 := by omega
        have HX := Lib.hid (HX.out.below hb5)
        have HM := Lib.hid (HI3.out.below hb5)
        have BC := Lib.hid (below_trans B2.out hb5 B2.out.size)
        obtain ⟨A2, hA2⟩ : ∃ A2, (if c3 = j then A3 else A3.map (·.add (j * 5))) = A2 := ⟨_, rfl⟩
        have hdr := HM.out.drop' (fun ad e => by obtain ⟨g, h1, _⟩ := HA3.out ad e; exact ⟨g, h1⟩) j hj
        rw [hA2] at hdr
        have HD := Lib.hid hdr
        have HA2 := Lib.hid hA2
        obtain ⟨B, hB⟩ : ∃ B, B = wc.heap.size := ⟨_, rfl⟩
        have HB := Lib.hid hB
        clear hA2 hdr hB hb5 hpos
        refine (‹∀ (a : Act) (w : World), Code.wp _ _ _ a w → _›) _ _ ?_
        go_wp2_with fail
        refine Flow.wp_region_set (m := 15) (by kernel_rfl) [0, 4, 9, 10, 14] (G19s b o n c u m c3 j A3 A2 x) (fun p f w => S19 B M x j m (p 0) (p 4) (p 9) (p 10) (p 14) (f 43) (f 47) (f 52) (f 53) (f 57) w) (by kernel_rfl) rfl (by decide) (G19s_pure b o n c u m c3 j A3 A2 x) ?indep ?start ?loc ?locC ?fin
        case indep =>
          intro p p' f f' w hp h hs
          have q0 : p 0 = p' 0 := hp 0 (by decide)
          have q4 : p 4 = p' 4 := hp 4 (by decide)
          have q9 : p 9 = p' 9 := hp 9 (by decide)
          have q10 : p 10 = p' 10 := hp 10 (by decide)
          have q14 : p 14 = p' 14 := hp 14 (by decide)
          have e43 : f 43 = f' 43 := h 0 _ 43 (by decide) rfl rfl
          have e47 : f 47 = f' 47 := h 4 _ 47 (by decide) rfl rfl
          have e52 : f 52 = f' 52 := h 9 _ 52 (by decide) rfl rfl
          have e53 : f 53 = f' 53 := h 10 _ 53 (by decide) rfl rfl
          have e57 : f 57 = f' 57 := h 14 _ 57 (by decide) rfl rfl
          show S19 B M x j m (p' 0) (p' 4) (p' 9) (p' 10) (p' 14) (f' 43) (f' 47) (f' 52) (f' 53) (f' 57) w
          rw [← q0, ← q4, ← q9, ← q10, ← q14, ← e43, ← e47, ← e52, ← e53, ← e57]
          exact hs
        case start => exact fun w hw hh => ⟨trivial, fun h => by cases h⟩
        case loc =>
          intro i o hi ho hno a w hw hk
          match i, hi, ho with
          | 0, _, _ => exact absurd (by decide) hno
          | 1, _, ho =>
            have ho2 := Option.some.inj ho; clear ho; subst ho2
            have r3 : a.tmps.getD 3 undef = .slice A3 m c3 := (hk 3 (Flow.mem_looks (by kernel_rfl))).later 15 (by kernel_rfl) (by decide)
            rw [if_pos (Flow.wanted_free rfl _)]
            refine step_run (v := .slice A3 m c3) (w' := w) ?_ ⟨rfl, rfl⟩
            simp [execOp, Act.eval, r3, go_sem]
          | 2, _, ho =>
            have ho2 := Option.some.inj ho; clear ho; subst ho2
            have r5 : a.tmps.getD 5 undef = .int .i64 j := (hk 5 (Flow.mem_looks (by kernel_rfl))).before (by kernel_rfl)
            rw [if_pos (Flow.wanted_free rfl _)]
            refine step_run (v := .int .i64 j) (w' := w) ?_ ⟨rfl, rfl⟩
            simp [execOp, Act.eval, r5, go_sem]
          | 3, _, ho =>
            have ho2 := Option.some.inj ho; clear ho; subst ho2
            have r44 : a.tmps.getD 44 undef = .slice A3 m c3 := (hk 44 (Flow.mem_looks (by kernel_rfl))).by_ 1 (by kernel_rfl) (by decide)
            have r45 : a.tmps.getD 45 undef = .int .i64 j := (hk 45 (Flow.mem_looks (by kernel_rfl))).by_ 2 (by kernel_rfl) (by decide)
            rw [if_pos (Flow.wanted_free rfl _)]
            refine step_run (v := .slice A3 j c3) (w' := w) ?_ ⟨rfl, rfl⟩
            simp [execOp, Act.eval, r44, r45, hjc, go_sem]
          | 4, _, _ => exact absurd (by decide) hno
          | 5, _, ho =>
            have ho2 := Option.some.inj ho; clear ho; subst ho2
            have r0 : a.tmps.getD 0 undef = .slice (some ⟨b, o, none⟩) n c := (hk 0 (Flow.mem_looks (by kernel_rfl))).before (by kernel_rfl)
            rw [if_pos (Flow.wanted_free rfl _)]
            refine step_run (v := .slice (some ⟨b, o, none⟩) n c) (w' := w) ?_ ⟨rfl, rfl⟩
            simp [execOp, Act.eval, r0, go_sem]
          | 6, _, ho =>
            have ho2 := Option.some.inj ho; clear ho; subst ho2
            have r4 : a.tmps.getD 4 undef = .int .i64 u := (hk 4 (Flow.mem_looks (by kernel_rfl))).before (by kernel_rfl)
            rw [if_pos (Flow.wanted_free rfl _)]
            refine step_run (v := .int .i64 u) (w' := w) ?_ ⟨rfl, rfl⟩
            simp [execOp, Act.eval, r4, go_sem]
          | 7, _, ho =>
            have ho2 := Option.some.inj ho; clear ho; subst ho2
            have r48 : a.tmps.getD 48 undef = .slice (some ⟨b, o, none⟩) n c := (hk 48 (Flow.mem_looks (by kernel_rfl))).by_ 5 (by kernel_rfl) (by decide)
            have r49 : a.tmps.getD 49 undef = .int .i64 u := (hk 49 (Flow.mem_looks (by kernel_rfl))).by_ 6 (by kernel_rfl) (by decide)
            rw [if_pos (Flow.wanted_free rfl _)]
            refine step_run (v := .pointer (some ⟨b, o + u * 5, none⟩)) (w' := w) ?_ ⟨rfl, rfl⟩
            simp [execOp, Act.eval, r48, r49, hin, add_off, go_sem]
          | 8, _, ho =>
            have ho2 := Option.some.inj ho; clear ho; subst ho2
            have r50 : a.tmps.getD 50 undef = .pointer (some ⟨b, o + u * 5, none⟩) := (hk 50 (Flow.mem_looks (by kernel_rfl))).by_ 7 (by kernel_rfl) (by decide)
            rw [if_pos (Flow.wanted_free rfl _)]
            refine step_load_mid 24 (.tmp 50) rfl b (o + u * 5) r50 x.cells _ (HX.out.below hw).range Try.underlying24 rfl (item_info x) ⟨rfl, rfl⟩
          | 9, _, _ => exact absurd (by decide) hno
          | 10, _, _ => exact absurd (by decide) hno
          | 11, _, ho =>
            have ho2 := Option.some.inj ho; clear ho; subst ho2
            have r3 : a.tmps.getD 3 undef = .slice A3 m c3 := (hk 3 (Flow.mem_looks (by kernel_rfl))).later 15 (by kernel_rfl) (by decide)
            rw [if_pos (Flow.wanted_free rfl _)]
            refine step_run (v := .slice A3 m c3) (w' := w) ?_ ⟨rfl, rfl⟩
            simp [execOp, Act.eval, r3, go_sem]
          | 12, _, ho =>
            have ho2 := Option.some.inj ho; clear ho; subst ho2
            have r5 : a.tmps.getD 5 undef = .int .i64 j := (hk 5 (Flow.mem_looks (by kernel_rfl))).before (by kernel_rfl)
            rw [if_pos (Flow.wanted_free rfl _)]
            refine step_run (v := .int .i64 j) (w' := w) ?_ ⟨rfl, rfl⟩
            simp [execOp, Act.eval, r5, go_sem]
          | 13, _, ho =>
            have ho2 := Option.some.inj ho; clear ho; subst ho2
            have r54 : a.tmps.getD 54 undef = .slice A3 m c3 := (hk 54 (Flow.mem_looks (by kernel_rfl))).by_ 11 (by kernel_rfl) (by decide)
            have r55 : a.tmps.getD 55 undef = .int .i64 j := (hk 55 (Flow.mem_looks (by kernel_rfl))).by_ 12 (by kernel_rfl) (by decide)
            rw [if_pos (Flow.wanted_free rfl _)]
            refine step_run (v := .slice A2 (m - j) (c3 - j)) (w' := w) ?_ ⟨rfl, rfl⟩
            rw [← HA2.out]
            simp [execOp, Act.eval, r54, r55, hjm, go_sem]
          | 14, _, _ => exact absurd (by decide) hno
          | _ + 15, hi, _ => exact absurd hi (by omega)
        case locC =>
          intro i o hc ho p a w hw hsz hk hp hdep hcl hS
          have hi : i = 0 ∨ i = 4 ∨ i = 9 ∨ i = 10 ∨ i = 14 := by simpa using hc
          clear hc
          rcases hi with rfl | rfl | rfl | rfl | rfl
          · have ho2 := Option.some.inj ho; clear ho; subst ho2
            refine ⟨rfl, ?_⟩
            have h4 : p 4 = false := by cases h : p 4 with | false => rfl | true => exact absurd (hcl 4 0 h (by kernel_rfl)) (by rw [hp]; decide)
            have h10 : p 10 = false := by cases h : p 10 with | false => rfl | true => exact absurd (hcl 10 4 h (by kernel_rfl)) (by rw [h4]; decide)
            have h14 : p 14 = false := by cases h : p 14 with | false => rfl | true => exact absurd (hcl 14 10 h (by kernel_rfl)) (by rw [h10]; decide)
            have hS2 := hS.2
            rw [hp, h4] at hS2
            refine step_run (v := .slice (some ⟨w.heap.size, 0, none⟩) 0 0) (w' := w.alloc (.cells #[] 24)) (by simp [execOp, Act.eval, go_sem]) ⟨(Below.refl _ _).alloc hw.size _, trivial, ?_⟩
            have e43 := Flow.vals_put (a := a) (d := 43) (v := .slice (some ⟨w.heap.size, 0, none⟩) 0 0) (by rw [hsz]; show _ < 59; decide)
            have n52 := Flow.vals_put_ne (a := a) (d := 43) (t := 52) (v := .slice (some ⟨w.heap.size, 0, none⟩) 0 0) (by decide)
            show S19 B M x j m true (p 4) (p 9) (p 10) (p 14) (Flow.vals (a.put (some 43) _) 43) _ (Flow.vals (a.put (some 43) _) 52) _ _ _
            rw [e43, n52, h4, h10, h14]
            exact ⟨own_empty w 24 5 (by rw [HB.out]; exact hw.size), fun h9 _ => (hS2 h9 h10).grow (row := none) ⟨rfl, rfl, rfl, by simp, fun k hk _ => Below.heap_alloc _ _ _ hk⟩ (.inr rfl)⟩
          · have ho2 := Option.some.inj ho; clear ho; subst ho2
            refine ⟨rfl, ?_⟩
            have h0 : p 0 = true := hdep 0 (by kernel_rfl)
            have h10 : p 10 = false := by cases h : p 10 with | false => rfl | true => exact absurd (hcl 10 4 h (by kernel_rfl)) (by rw [hp]; decide)
            have h14 : p 14 = false := by cases h : p 14 with | false => rfl | true => exact absurd (hcl 14 10 h (by kernel_rfl)) (by rw [h10]; decide)
            have r46 : a.tmps.getD 46 undef = .slice A3 j c3 := (hk 46 (Flow.mem_looks (by kernel_rfl))).by_ 3 (by kernel_rfl) (by decide)
            have hS1 := hS.1
            have hS2 := hS.2
            rw [h0, hp, h10, h14] at hS1
            rw [h0, hp] at hS2
            refine step_append (.tmp 43) (.tmp 46) 22 24 zeroE 5 40 rfl Try.underlying22 infoE rfl (by decide) B _ 0 [] rfl hS1 A3 j c3 ((M.take j).flatMap Item.cells) r46 (((HM.out.take' j HJ.out).below hw).src) (by unfold maxLen; omega) (by omega) (by rw [HB.out]; exact hw.size) ?_
            intro v' w' hown hg hob
            refine ⟨below_grown (Below.refl _ _) hg hw.size (fun jb hj => by rw [← HB.out]; exact (World.ownsRow.lt hS1 jb hj).1), trivial, ?_⟩
            have e47 := Flow.vals_put (a := a) (d := 47) (v := v') (by rw [hsz]; show _ < 59; decide)
            have n52 := Flow.vals_put_ne (a := a) (d := 47) (t := 52) (v := v') (by decide)
            show S19 B M x j m (p 0) true (p 9) (p 10) (p 14) _ (Flow.vals (a.put (some 47) _) 47) (Flow.vals (a.put (some 47) _) 52) _ _ _
            rw [e47, n52, h0, h10, h14]
            rw [Nat.zero_add, List.nil_append] at hown
            exact ⟨hown, fun h9 _ => (hS2 h9 h10).grow hg hob⟩
          · have ho2 := Option.some.inj ho; clear ho; subst ho2
            refine ⟨rfl, ?_⟩
            have h10 : p 10 = false := by cases h : p 10 with | false => rfl | true => exact absurd (hcl 10 9 h (by kernel_rfl)) (by rw [hp]; decide)
            have h14 : p 14 = false := by cases h : p 14 with | false => rfl | true => exact absurd (hcl 14 10 h (by kernel_rfl)) (by rw [h10]; decide)
            have r51 : a.tmps.getD 51 undef = .agg x.cells.toArray := (hk 51 (Flow.mem_looks (by kernel_rfl))).by_ 8 (by kernel_rfl) (by decide)
            have hS1 := hS.1
            rw [h10, h14] at hS1
            refine step_build1 51 rfl x r51 ⟨(Below.refl _ _).alloc hw.size _, trivial, ?_⟩
            have e52 := Flow.vals_put (a := a) (d := 52) (v := .slice (some ⟨w.heap.size, 0, none⟩) 1 1) (by rw [hsz]; show _ < 59; decide)
            have n43 := Flow.vals_put_ne (a := a) (d := 52) (t := 43) (v := .slice (some ⟨w.heap.size, 0, none⟩) 1 1) (by decide)
            have n47 := Flow.vals_put_ne (a := a) (d := 52) (t := 47) (v := .slice (some ⟨w.heap.size, 0, none⟩) 1 1) (by decide)
            have n53 := Flow.vals_put_ne (a := a) (d := 52) (t := 53) (v := .slice (some ⟨w.heap.size, 0, none⟩) 1 1) (by decide)
            have n57 := Flow.vals_put_ne (a := a) (d := 52) (t := 57) (v := .slice (some ⟨w.heap.size, 0, none⟩) 1 1) (by decide)
            show S19 B M x j m (p 0) (p 4) true (p 10) (p 14) (Flow.vals (a.put (some 52) _) 43) (Flow.vals (a.put (some 52) _) 47) (Flow.vals (a.put (some 52) _) 52) (Flow.vals (a.put (some 52) _) 53) (Flow.vals (a.put (some 52) _) 57) _
            rw [e52, n43, n47, n53, n57, h10, h14]
            exact ⟨hS1.alloc, fun _ _ => ⟨w.heap.size, rfl, at_alloc 24, by simp, hS1.ne⟩⟩
          · have ho2 := Option.some.inj ho; clear ho; subst ho2
            refine ⟨rfl, ?_⟩
            have h4 : p 4 = true := hdep 4 (by kernel_rfl)
            have h9 : p 9 = true := hdep 9 (by kernel_rfl)
            have h14 : p 14 = false := by cases h : p 14 with | false => rfl | true => exact absurd (hcl 14 10 h (by kernel_rfl)) (by rw [hp]; decide)
            have h0 : p 0 = true := hcl 4 0 h4 (by kernel_rfl)
            have hS1 := hS.1
            have hS2 := hS.2
            rw [h0, h4, hp, h14] at hS1
            rw [h0, h4] at hS2
            obtain ⟨jb, hv, hat, _, _⟩ := hS2 h9 hp
            have hv' : a.tmps.getD 52 undef = .slice (some ⟨jb, 0, none⟩) 1 1 := hv
            refine step_append (.tmp 47) (.tmp 52) 22 24 zeroE 5 40 rfl Try.underlying22 infoE rfl (by decide) B _ j _ rfl hS1 (some ⟨jb, 0, none⟩) 1 1 x.cells hv' (item_src hat) (by unfold maxLen; omega) (by omega) (by rw [HB.out]; exact hw.size) ?_
            intro v' w' hown hg hob
            refine ⟨below_grown (Below.refl _ _) hg hw.size (fun jb hj => by rw [← HB.out]; exact (World.ownsRow.lt hS1 jb hj).1), trivial, ?_⟩
            have e53 := Flow.vals_put (a := a) (d := 53) (v := v') (by rw [hsz]; show _ < 59; decide)
            show S19 B M x j m (p 0) (p 4) (p 9) true (p 14) _ _ _ (Flow.vals (a.put (some 53) _) 53) _ _
            rw [e53, h0, h4, h14]
            exact ⟨hown, fun _ h => by cases h⟩
          · have ho2 := Option.some.inj ho; clear ho; subst ho2
            refine ⟨rfl, ?_⟩
            have h10 : p 10 = true := hdep 10 (by kernel_rfl)
            have r56 : a.tmps.getD 56 undef = .slice A2 (m - j) (c3 - j) := (hk 56 (Flow.mem_looks (by kernel_rfl))).by_ 13 (by kernel_rfl) (by decide)
            have h4 : p 4 = true := hcl 10 4 h10 (by kernel_rfl)
            have h0 : p 0 = true := hcl 4 0 h4 (by kernel_rfl)
            have hS1 := hS.1
            rw [h0, h4, h10, hp] at hS1
            refine step_append (.tmp 53) (.tmp 56) 22 24 zeroE 5 40 rfl Try.underlying22 infoE rfl (by decide) B _ (j + 1) _ rfl hS1 A2 (m - j) (c3 - j) ((M.drop j).flatMap Item.cells) r56 ((HD.out.below hw).src) (by unfold maxLen; omega) (by omega) (by rw [HB.out]; exact hw.size) ?_
            intro v' w' hown hg hob
            refine ⟨below_grown (Below.refl _ _) hg hw.size (fun jb hj => by rw [← HB.out]; exact (World.ownsRow.lt hS1 jb hj).1), trivial, ?_⟩
            have e57 := Flow.vals_put (a := a) (d := 57) (v := v') (by rw [hsz]; show _ < 59; decide)
            show S19 B M x j m (p 0) (p 4) (p 9) (p 10) true _ _ _ _ (Flow.vals (a.put (some 57) _) 57) _
            rw [e57, h0, h4, h10]
            exact ⟨hown, fun _ h => by cases h⟩
        case fin =>
          intro a4 w4 hw4 hd4 hs4 hg4 hold hS
          obtain ⟨v3, hv3⟩ : ∃ v, v = a4.tmps.getD 57 undef := ⟨_, rfl⟩
          have hS3 : w4.ownsRow B 24 5 (a4.tmps.getD 57 undef) (j + 1 + (m - j)) ((M.take j).flatMap Item.cells ++ x.cells ++ (M.drop j).flatMap Item.cells) := hS.1
          rw [← hv3, List.append_assoc, ← List.flatMap_cons, ← List.flatMap_append, show j + 1 + (m - j) = m + 1 by omega] at hS3
          have hS4 : OwnI w4 w.heap.size v3 (m + 1) (ins x M) := by
            have : ins x M = M.take j ++ x :: M.drop j := by unfold ins; rw [ML.out, HP.out]
            rw [this]
            exact row_lower hS3 (by rw [HB.out]; exact BC.out.size)
          have B6 := Lib.hid (below_trans BC.out hw4 BC.out.size)
          have OW6 := Lib.hid hS4
          have ea := Flow.act_eq (a := a4) [.slice (some ⟨b, o, none⟩) n c, undef, .slice none 0 0, a4.tmps.getD 3 undef, .int .i64 u, .int .i64 j, a4.tmps.getD 6 undef, a4.tmps.getD 7 undef, a4.tmps.getD 8 undef, a4.tmps.getD 9 undef, a4.tmps.getD 10 undef, a4.tmps.getD 11 undef, a4.tmps.getD 12 undef, a4.tmps.getD 13 undef, a4.tmps.getD 14 undef, a4.tmps.getD 15 undef, a4.tmps.getD 16 undef, a4.tmps.getD 17 undef, a4.tmps.getD 18 undef, a4.tmps.getD 19 undef, a4.tmps.getD 20 undef, a4.tmps.getD 21 undef, a4.tmps.getD 22 undef, a4.tmps.getD 23 undef, a4.tmps.getD 24 undef, a4.tmps.getD 25 undef, a4.tmps.getD 26 undef, a4.tmps.getD 27 undef, a4.tmps.getD 28 undef, a4.tmps.getD 29 undef, a4.tmps.getD 30 undef, a4.tmps.getD 31 undef, a4.tmps.getD 32 undef, a4.tmps.getD 33 undef, a4.tmps.getD 34 undef, a4.tmps.getD 35 undef, a4.tmps.getD 36 undef, a4.tmps.getD 37 undef, a4.tmps.getD 38 undef, a4.tmps.getD 39 undef, a4.tmps.getD 40 undef, a4.tmps.getD 41 undef, a4.tmps.getD 42 undef, a4.tmps.getD 43 undef, a4.tmps.getD 44 undef, a4.tmps.getD 45 undef, a4.tmps.getD 46 undef, a4.tmps.getD 47 undef, a4.tmps.getD 48 undef, a4.tmps.getD 49 undef, a4.tmps.getD 50 undef, a4.tmps.getD 51 undef, a4.tmps.getD 52 undef, a4.tmps.getD 53 undef, a4.tmps.getD 54 undef, a4.tmps.getD 55 undef, a4.tmps.getD 56 undef, v3, undef] hs4 hd4 (by
            intro t ht
            match t, ht with
            | 0, _ => exact Flow.old_at hold 0 (by kernel_rfl)
            | 1, _ => exact Flow.old_at hold 1 (by kernel_rfl)
            | 2, _ => exact Flow.old_at hold 2 (by kernel_rfl)
            | 3, _ => exact rfl
            | 4, _ => exact Flow.old_at hold 4 (by kernel_rfl)
            | 5, _ => exact Flow.old_at hold 5 (by kernel_rfl)
            | 6, _ => exact rfl
            | 7, _ => exact rfl
            | 8, _ => exact rfl
            | 9, _ => exact rfl
            | 10, _ => exact rfl
            | 11, _ => exact rfl
            | 12, _ => exact rfl
            | 13, _ => exact rfl
            | 14, _ => exact rfl
            | 15, _ => exact rfl
            | 16, _ => exact rfl
            | 17, _ => exact rfl
            | 18, _ => exact rfl
            | 19, _ => exact rfl
            | 20, _ => exact rfl
            | 21, _ => exact rfl
            | 22, _ => exact rfl
            | 23, _ => exact rfl
            | 24, _ => exact rfl
            | 25, _ => exact rfl
            | 26, _ => exact rfl
            | 27, _ => exact rfl
            | 28, _ => exact rfl
            | 29, _ => exact rfl
            | 30, _ => exact rfl
            | 31, _ => exact rfl
            | 32, _ => exact rfl
            | 33, _ => exact rfl
            | 34, _ => exact rfl
            | 35, _ => exact rfl
            | 36, _ => exact rfl
            | 37, _ => exact rfl
            | 38, _ => exact rfl
            | 39, _ => exact rfl
            | 40, _ => exact rfl
            | 41, _ => exact rfl
            | 42, _ => exact rfl
            | 43, _ => exact rfl
            | 44, _ => exact rfl
            | 45, _ => exact rfl
            | 46, _ => exact rfl
            | 47, _ => exact rfl
            | 48, _ => exact rfl
            | 49, _ => exact rfl
            | 50, _ => exact rfl
            | 51, _ => exact rfl
            | 52, _ => exact rfl
            | 53, _ => exact rfl
            | 54, _ => exact rfl
            | 55, _ => exact rfl
            | 56, _ => exact rfl
            | 57, _ => exact hv3.symm
            | 58, _ => exact Flow.old_at hold 58 (by kernel_rfl)
            | t + 59, ht => exact absurd ht (by simp))
          rw [ea]
          generalize a4.tmps.getD 3 undef = z3
          generalize a4.tmps.getD 6 undef = z6
          generalize a4.tmps.getD 7 undef = z7
          generalize a4.tmps.getD 8 undef = z8
          generalize a4.tmps.getD 9 undef = z9
          generalize a4.tmps.getD 10 undef = z10
          generalize a4.tmps.getD 11 undef = z11
          generalize a4.tmps.getD 12 undef = z12
          generalize a4.tmps.getD 13 undef = z13
          generalize a4.tmps.getD 14 undef = z14
          generalize a4.tmps.getD 15 undef = z15
          generalize a4.tmps.getD 16 undef = z16
          generalize a4.tmps.getD 17 undef = z17
          generalize a4.tmps.getD 18 undef = z18
          generalize a4.tmps.getD 19 undef = z19
          generalize a4.tmps.getD 20 undef = z20
          generalize a4.tmps.getD 21 undef = z21
          generalize a4.tmps.getD 22 undef = z22
          generalize a4.tmps.getD 23 undef = z23
          generalize a4.tmps.getD 24 undef = z24
          generalize a4.tmps.getD 25 undef = z25
          generalize a4.tmps.getD 26 undef = z26
          generalize a4.tmps.getD 27 undef = z27
          generalize a4.tmps.getD 28 undef = z28
          generalize a4.tmps.getD 29 undef = z29
          generalize a4.tmps.getD 30 undef = z30
          generalize a4.tmps.getD 31 undef = z31
          generalize a4.tmps.getD 32 undef = z32
          generalize a4.tmps.getD 33 undef = z33
          generalize a4.tmps.getD 34 undef = z34
          generalize a4.tmps.getD 35 undef = z35
          generalize a4.tmps.getD 36 undef = z36
          generalize a4.tmps.getD 37 undef = z37
          generalize a4.tmps.getD 38 undef = z38
          generalize a4.tmps.getD 39 undef = z39
          generalize a4.tmps.getD 40 undef = z40
          generalize a4.tmps.getD 41 undef = z41
          generalize a4.tmps.getD 42 undef = z42
          generalize a4.tmps.getD 43 undef = z43
          generalize a4.tmps.getD 44 undef = z44
          generalize a4.tmps.getD 45 undef = z45
          generalize a4.tmps.getD 46 undef = z46
          generalize a4.tmps.getD 47 undef = z47
          generalize a4.tmps.getD 48 undef = z48
          generalize a4.tmps.getD 49 undef = z49
          generalize a4.tmps.getD 50 undef = z50
          generalize a4.tmps.getD 51 undef = z51
          generalize a4.tmps.getD 52 undef = z52
          generalize a4.tmps.getD 53 undef = z53
          generalize a4.tmps.getD 54 undef = z54
          generalize a4.tmps.getD 55 undef = z55
          generalize a4.tmps.getD 56 undef = z56
          clear ea
          obtain ⟨A6, c6, hv6, _, _⟩ := hS4.its
          subst hv6
          clear hd4 hs4 hg4 hold hw4 hS3 hS4 hv3 hS
          go_wp2
          go_roundw
          case rel => exact ⟨u + 1, m + 1, A6, c6, by go_num, rfl, by omega, by rw [HNX2.out]; exact OW6.out, B6.out⟩
          case measure => simp [intOf]; omega
    · have hin : ¬ (u : Int) < n := by omega
      have htk : L.take u = L := List.take_of_length_le (by rw [HL.out]; omega)
      rw [htk] at HMM
      rw [HMM.out] at OW
      clear htk hb
      go_wp2
      go_ret
      exact ⟨_, m, rfl, OW.out, BB.out⟩
end Go.Proofs.Ytclfbjbbdfejkaa.Ord
