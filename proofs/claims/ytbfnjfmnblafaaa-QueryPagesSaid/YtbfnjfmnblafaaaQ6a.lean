/- query.Next -/
import Derived.Test.YtbfnjfmnblafaaaQm
namespace Go.Proofs.Ytbfnjfmnblafaaa.Qry
open Go.RowKit Go.Shelf

attribute [local go_sem] Oper.semAt_some

theorem upd_no (a : Ask) (l : List (Item × Bool)) (x : Item) : upd a (l ++ [(x, false)]) = { upd a l with tick := x.tick, id := x.id } := by simp [upd]
theorem upd_more (a : Ask) (l : List (Item × Bool)) (x : Item) : upd a (l ++ [(x, true)]) = upd a l := by simp [upd]
theorem blk_own {β : Type} {B : Nat} (b : Nat) (f : β → Array Value) (t : TypeId) : OwnFrom B (fun (s : β) W => W.heap[b]? = some (.cells (f s) t (0, 0))) :=
  fun s A B row hs hg hr => (hg.block b (Array.getElem?_eq_some_iff.1 hs).1 (fun e => by
    obtain ⟨_, o, ho, hc⟩ := hr b e.symm
    rw [hs] at ho; cases ho; cases hc)).trans hs
theorem own_pure {β : Type} {B : Nat} (p : β → Prop) : OwnFrom B (fun (s : β) (_ : World) => p s) := fun _ _ _ _ h _ _ => h

/-- Between two rounds of Next: the blocks of a, of the two results, of b. -/
def NextI (w : World) (s1 g Br Bz Bb : Nat) (a : Ask) (pre : List (Item × Bool)) (W : World) : Prop :=
  (W.heap[Bb]? = some (.cells (upd a pre).cells.toArray 31 (0, 0)) ∧ W.heap[g]? = some (.cells a.cells.toArray 31 (0, 0)) ∧
   W.heap[Br]? = some (.cells Ask.zero.cells.toArray 31 (0, 0)) ∧ W.heap[Bz]? = some (.cells #[.bool false] 4 (0, 0)) ∧ more a pre = false) ∧ (Below w.heap.size w W ∧ s1 ≤ W.heap.size)
def NextX (w : World) (Br Bz : Nat) (a : Ask) (c : Code) (pre : List (Item × Bool)) (W : World) : Prop :=
  c = Code.ret ∧ (W.heap[Br]? = some (.cells (upd a pre).cells.toArray 31 (0, 0)) ∧ W.heap[Bz]? = some (.cells #[.bool true] 4 (0, 0)) ∧ Below w.heap.size w W) ∧ more a pre = true ∧ ∃ p x, pre = p ++ [(x, true)]
theorem nextI_own {w : World} {s1 g Br Bz Bb : Nat} {a : Ask} (h : w.heap.size ≤ s1) : OwnFrom s1 (NextI w s1 g Br Bz Bb a) :=
  OwnFrom.and (OwnFrom.and (blk_own _ (fun pre => (upd a pre).cells.toArray) _) (OwnFrom.and (blk_own _ (fun _ => a.cells.toArray) _) (OwnFrom.and (blk_own _ (fun _ => Ask.zero.cells.toArray) _) (OwnFrom.and (blk_own _ (fun _ => #[.bool false]) _) (own_pure _))))) (OwnFrom.and (ownFrom_below (Nat.le_refl _) h) (fun _ _ _ _ hs hg _ => Nat.le_trans hs hg.size))
theorem nextX_own {w : World} {s1 Br Bz : Nat} {a : Ask} (h : w.heap.size ≤ s1) (c : Code) : OwnFrom s1 (NextX w Br Bz a c) :=
  OwnFrom.and (own_pure _) (OwnFrom.and (OwnFrom.and (blk_own _ (fun pre => (upd a pre).cells.toArray) _) (OwnFrom.and (blk_own _ (fun _ => #[.bool true]) _) (ownFrom_below (Nat.le_refl _) h))) (own_pure _))
/-- What Next tells. -/
def NextPost (w : World) (r : Ask × Bool) (e : Ending) (w' : World) : Prop := e = .returned (.tuple #[.agg r.1.cells.toArray, .bool r.2]) ∧ Below w.heap.size w w'
theorem more_more (a : Ask) (l : List (Item × Bool)) (x : Item) : more a (l ++ [(x, true)]) = decide (0 < a.limit) := by simp [more]
theorem more_no (a : Ask) (l : List (Item × Bool)) (x : Item) : more a (l ++ [(x, false)]) = more a l := by simp [more]
theorem keeps_setRow {W : World} {g : Nat} {old cs : Array Value} {t : TypeId} {fr : Nat × Nat} (hg : W.heap[g]? = some (.cells old t fr)) : KeepsOthers W (W.setRow g cs) :=
  ⟨by simp, fun k o hk ho => by
    by_cases e : k = g
    · subst e; rw [hg] at hk; cases hk; cases ho
    · rw [setRow_other _ _ _ _ e]; exact hk⟩
theorem below_setRow {n : Nat} {w W : World} {g : Nat} {cs : Array Value} (h : Below n w W) (hn : n ≤ g) : Below n w (W.setRow g cs) :=
  ⟨h.os, h.tape, h.output, by simp; exact h.size, fun k hk => (setRow_other W g k cs (by omega)).trans (h.block k hk)⟩
theorem run_loadVar_bool {P : Program} (w : World) (ty : TypeId) (a : Addr) (v : Value) (hu : P.underlying ty = some .bool) (hc : w.cell? a = some v) : (loadVar ty a).run P w = .ok v w := by
  have hagg : (isAgg ty).run P w = .ok false w := by
    unfold isAgg
    rw [Sem.run_bind, run_underlying hu w]
    rfl
  simp [loadVar, Sem.run_bind, hagg, Result.andThen, hc]
theorem results_ca {P : Program} {fn : Func} {p q : Tmp} {ty tq : TypeId} (h : fn.results = #[.cell p ty, .cell q tq]) (tmps : Array Value) (w : World) (g g' : Nat) (t t' : TypeId) (cs : Array Value) (v : Value) (fr fr' : Nat × Nat) (d : TypeDesc)
    (hp : tmps.getD p undef = .pointer (some ⟨g, 0, none⟩)) (hg : w.heap[g]? = some (.cells cs t fr))
    (hu : P.underlying ty = some d) (hd : (match d with | .struct _ | .array _ _ => true | _ => false) = true) (hi : (P.info? ty).map (·.size) = some cs.size)
    (hq : tmps.getD q undef = .pointer (some ⟨g', 0, none⟩)) (hg' : w.heap[g']? = some (.cells #[v] t' fr'))
    (hu' : P.underlying tq = some .bool) :
    (results fn tmps).run P w = .ok (.tuple #[.agg cs, v]) w := by
  have h1 : tmps[p]?.getD undef = .pointer (some ⟨g, 0, none⟩) := by simpa using hp
  have h2 : tmps[q]?.getD undef = .pointer (some ⟨g', 0, none⟩) := by simpa using hq
  have hc : w.cell? ⟨g', 0, none⟩ = some v := by simp [World.cell?, hg']
  simp [results, h, h1, h2, asAddr, run_loadVar_row w g t ty cs fr d hg hu hd hi, run_loadVar_bool w tq ⟨g', 0, none⟩ v hu' hc]
theorem upd_cells (b : Ask) (t i : Int) : (b.cells.toArray.setIfInBounds 4 (.int .i64 t)).setIfInBounds 5 (.int .i64 i) = ({ b with tick := t, id := i } : Ask).cells.toArray := by
  simp [Ask.cells]
theorem no_end {w W : World} {s1 g Br Bz Bb Ba : Nat} {a : Ask} {pre : List (Item × Bool)} {it : Item} {U : Array Value} (hBb : Bb = g + 3 ∧ Br = g + 1 ∧ Bz = g + 2 ∧ Ba = g + 5 ∧ g = w.heap.size)
    (hU : U = (upd a pre).cells.toArray) (hbb : W.heap[Bb]? = some (.cells U 31 (0, 0))) (hba : W.heap[g]? = some (.cells a.cells.toArray 31 (0, 0))) (hz1 : W.heap[Br]? = some (.cells Ask.zero.cells.toArray 31 (0, 0)))
    (hz2 : W.heap[Bz]? = some (.cells #[.bool false] 4 (0, 0))) (hm : more a pre = false) (hbel : Below w.heap.size w W) (hsz : s1 ≤ W.heap.size) :
    KeepsFrom s1 W ((W.setCell ⟨Bb, 4, none⟩ (.int .i64 it.tick)).setCell ⟨Bb, 5, none⟩ (.int .i64 it.id)) ∧ Kept w.heap.size Ba W ((W.setCell ⟨Bb, 4, none⟩ (.int .i64 it.tick)).setCell ⟨Bb, 5, none⟩ (.int .i64 it.id)) ∧
    NextI w s1 g Br Bz Bb a (pre ++ [(it, false)]) ((W.setCell ⟨Bb, 4, none⟩ (.int .i64 it.tick)).setCell ⟨Bb, 5, none⟩ (.int .i64 it.id)) := by
  obtain ⟨h1, h2, h3, h4, h5⟩ := hBb
  have ho : ∀ k, k ≠ Bb → ((W.setCell ⟨Bb, 4, none⟩ (.int .i64 it.tick)).setCell ⟨Bb, 5, none⟩ (.int .i64 it.id)).heap[k]? = W.heap[k]? := fun k hk => by
    rw [heap_setCell_other _ _ _ _ (by exact hk), heap_setCell_other _ _ _ _ (by exact hk)]
  have hs : ((W.setCell ⟨Bb, 4, none⟩ (.int .i64 it.tick)).setCell ⟨Bb, 5, none⟩ (.int .i64 it.id)).heap.size = W.heap.size := by simp
  have hB : Below w.heap.size W ((W.setCell ⟨Bb, 4, none⟩ (.int .i64 it.tick)).setCell ⟨Bb, 5, none⟩ (.int .i64 it.id)) := ((Below.refl _ W).setCell (by show w.heap.size ≤ Bb; omega) _).setCell (by show w.heap.size ≤ Bb; omega) _
  refine ⟨((KeepsOthers.setCell _ _ _).trans (KeepsOthers.setCell _ _ _)).from _, ⟨hB, ho _ (by omega)⟩, ⟨?_, ?_, ?_, ?_, by rw [more_no]; exact hm⟩, hbel.trans hB, by rw [hs]; exact hsz⟩
  · rw [upd_no, ← upd_cells, ← hU]
    exact heap_setCell_same _ Bb 5 _ 31 _ (heap_setCell_same W Bb 4 U 31 _ hbb)
  · rw [ho _ (by omega)]; exact hba
  · rw [ho _ (by omega)]; exact hz1
  · rw [ho _ (by omega)]; exact hz2
theorem heap3 (w : World) (o o1 o2 : Obj) : (((w.alloc o).alloc o1).alloc o2).heap[w.heap.size]? = some o := by
  rw [heap_alloc_old _ _ (by simp; omega), heap_alloc_old _ _ (by simp)]
  exact heap_alloc_new w o
theorem heap4 (w : World) (o o1 o2 o3 : Obj) : ((((w.alloc o).alloc o1).alloc o2).alloc o3).heap[w.heap.size]? = some o := by
  rw [heap_alloc_old _ _ (by simp; omega)]
  exact heap3 w o o1 o2
theorem heap4_1 (w : World) (o o1 o2 o3 : Obj) : ((((w.alloc o).alloc o1).alloc o2).alloc o3).heap[w.heap.size + 1]? = some o1 := by
  have := heap3 (w.alloc o) o1 o2 o3
  rw [World.size_alloc] at this
  exact this
theorem heap4_2 (w : World) (o o1 o2 o3 : Obj) : ((((w.alloc o).alloc o1).alloc o2).alloc o3).heap[w.heap.size + 2]? = some o2 := by
  rw [heap_alloc_old _ _ (by simp)]
  have := heap_alloc_new ((w.alloc o).alloc o1) o2
  simpa using this
theorem heap4_3 (w : World) (o o1 o2 o3 : Obj) : ((((w.alloc o).alloc o1).alloc o2).alloc o3).heap[w.heap.size + 3]? = some o3 := by
  have := heap_alloc_new (((w.alloc o).alloc o1).alloc o2) o3
  simpa using this
theorem set4 (w : World) (o o1 o2 : Obj) (c Y : Array Value) (t : TypeId) : ((((w.alloc o).alloc o1).alloc o2).alloc (.cells c t)).setRow (w.heap.size + 3) Y = (((w.alloc o).alloc o1).alloc o2).alloc (.cells Y t) := by
  have := World.setRow_alloc_new (((w.alloc o).alloc o1).alloc o2) c Y t
  simpa using this
theorem no_end_drew {w W : World} {s1 g Br Bz Bb Ba : Nat} {a : Ask} {pre : List (Item × Bool)} {it : Item} {U : Array Value} (hBb : Bb = g + 3 ∧ Br = g + 1 ∧ Bz = g + 2 ∧ Ba = g + 5 ∧ g = w.heap.size)
    (hU : U = (upd a pre).cells.toArray) (hbb : W.heap[Bb]? = some (.cells U 31 (0, 0))) (hba : W.heap[g]? = some (.cells a.cells.toArray 31 (0, 0))) (hz1 : W.heap[Br]? = some (.cells Ask.zero.cells.toArray 31 (0, 0)))
    (hz2 : W.heap[Bz]? = some (.cells #[.bool false] 4 (0, 0))) (hm : more a pre = false) (hbel : Below w.heap.size w W) (hsz : s1 ≤ W.heap.size) :
    KeepsFrom s1 W ((W.setCell ⟨Bb, 4, none⟩ (.int .i64 it.tick)).setCell ⟨Bb, 5, none⟩ (.int .i64 it.id)).drew ∧ Kept w.heap.size Ba W ((W.setCell ⟨Bb, 4, none⟩ (.int .i64 it.tick)).setCell ⟨Bb, 5, none⟩ (.int .i64 it.id)).drew ∧
    NextI w s1 g Br Bz Bb a (pre ++ [(it, false)]) ((W.setCell ⟨Bb, 4, none⟩ (.int .i64 it.tick)).setCell ⟨Bb, 5, none⟩ (.int .i64 it.id)).drew := by
  obtain ⟨h1, h2, h3, h4, h5⟩ := no_end (it := it) hBb hU hbb hba hz1 hz2 hm hbel hsz
  exact ⟨⟨h1.size, h1.same⟩, ⟨⟨h2.1.os, h2.1.tape, h2.1.output, h2.1.size, h2.1.block⟩, h2.2⟩, h3, ⟨h4.os, h4.tape, h4.output, h4.size, h4.block⟩, h5⟩
theorem fz_row {W W2 : World} {Br Bz : Nat} {X : Array Value} {v : Value} {t : TypeId} (hne : Bz ≠ Br) (h : W.heap[Bz]? = some (.cells #[v] t (0, 0))) (e : W2 = W.setRow Br X) : W2.cell? ⟨Bz, 0, none⟩ = some v ∧ W2.frozen? ⟨Bz, 0, none⟩ = false := by
  have h2 : W2.heap[Bz]? = some (.cells #[v] t (0, 0)) := by rw [e, setRow_other _ _ _ _ hne]; exact h
  exact ⟨by simp [World.cell?, h2], frozen_of_row _ Bz 0 #[v] t h2⟩
theorem end_row {w W W2 : World} {Br Bz D : Nat} {X old : Array Value} {u v : Value} {t t' : TypeId} {o : Obj} (hne : Bz ≠ Br) (h1 : w.heap.size ≤ Br ∧ w.heap.size ≤ Bz) (h2 : D ≠ Br ∧ D ≠ Bz) (hb : Below w.heap.size w W) (e : W2 = W.setRow Br X)
    (hr : W.heap[Br]? = some (.cells old t (0, 0))) (hz : W.heap[Bz]? = some (.cells #[u] t' (0, 0))) (hd : W.heap[D]? = some o) :
    Below w.heap.size w (W2.setCell ⟨Bz, 0, none⟩ v) ∧ (W2.setCell ⟨Bz, 0, none⟩ v).heap[Br]? = some (.cells X t (0, 0)) ∧ (W2.setCell ⟨Bz, 0, none⟩ v).heap[Bz]? = some (.cells #[v] t' (0, 0)) ∧ (W2.setCell ⟨Bz, 0, none⟩ v).heap[D]? = some o := by
  subst e
  refine ⟨(below_setRow hb h1.1).setCell (p := ⟨Bz, 0, none⟩) h1.2 _, ?_, ?_, ?_⟩
  · rw [heap_setCell_other _ _ _ _ (by exact Ne.symm hne)]; exact setRow_heap _ _ _ _ _ _ hr
  · exact heap_setCell_same _ Bz 0 #[u] t' v (by rw [setRow_other _ _ _ _ hne]; exact hz)
  · rw [heap_setCell_other _ _ _ _ (by exact h2.2), setRow_other _ _ _ _ h2.1]; exact hd
end Go.Proofs.Ytbfnjfmnblafaaa.Qry
