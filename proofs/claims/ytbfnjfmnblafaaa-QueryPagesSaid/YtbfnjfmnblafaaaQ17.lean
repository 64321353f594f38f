/- One; what the law's head asks. -/
import Derived.Test.YtbfnjfmnblafaaaQ16
import Derived.Test.YtbfnjfmnblafaaaQ6
namespace Go.Proofs.Ytbfnjfmnblafaaa.Qry
open Go.RowKit

def web : ByteArray := ⟨#[119, 101, 98]⟩
def db : ByteArray := ⟨#[100, 98]⟩
def one (id tick seq pos : Int) (A : Option Addr) : Ent := { it := ⟨id, 0, tick, 20, false⟩, bid := id, bfrom := 0, bto := 0, many := 1, sA := A, sn := 1, sc := 1, ss := [web], seq := seq, pos := pos, size := 20 }
def OnePost (id tick seq pos : Int) (w : World) (e : Ending) (w' : World) : Prop := ∃ A, e = .returned (.agg (one id tick seq pos A).cells.toArray) ∧ SRd w' A 1 1 [web] ∧ Below w.heap.size w w'
theorem srd_one (w : World) (x : ByteArray) (t : TypeId) : SRd (w.alloc (.cells #[.string x] t)) (some ⟨w.heap.size, 0, none⟩) 1 1 [x] :=
  ⟨rfl, Nat.le_refl _, by decide, fun e => (by cases e), fun ad e _ => by
    cases e
    refine ⟨_, 0, rfl, fun j hj => ?_⟩
    obtain rfl : j = 0 := by simp at hj; omega
    simp⟩
set_option maxRecDepth 100000 in
set_option maxHeartbeats 4000000 in
theorem one_any (id tick seq pos : Int) (w : World) :
    Calls Try.prog 19 #[.int .i64 id, .int .i64 tick, .int .i64 seq, .int .i64 pos] w (OnePost id tick seq pos w) := by
  go_enter Try.func19, Try.ntmps19
  go_upto_region 1 with (fail)
  obtain ⟨W1, hW1⟩ : ∃ W1, W1 = w.alloc (.cells zeroA 29) := ⟨_, rfl⟩
  unfold zeroA at hW1
  rw [← hW1]
  have hs1 : W1.heap.size = w.heap.size + 1 := by rw [hW1]; simp
  have hb1 : W1.heap[w.heap.size]? = some (.cells zeroA 29 (0, 0)) := by rw [hW1]; exact heap_alloc_new w _
  have hB1 : Below w.heap.size w W1 := by rw [hW1]; exact (Below.refl _ _).alloc (Nat.le_refl _) _
  obtain ⟨g, hg⟩ : ∃ g, g = w.heap.size := ⟨_, rfl⟩
  rw [← hg] at hb1 ⊢
  have HS : Hid (g = w.heap.size ∧ W1.heap.size = g + 1) := Lib.hid (by omega)
  have HB := Lib.hid hb1
  have B1 := Lib.hid hB1
  obtain ⟨E, hE⟩ : ∃ E, E = one id tick seq pos (some ⟨W1.heap.size, 0, none⟩) := ⟨_, rfl⟩
  have HE := Lib.hid hE
  have HEi := Lib.hid (show (Try.prog.info? 29).map (·.size) = some E.cells.toArray.size by show _ = some E.cells.length; rw [Ent.cells_length]; kernel_rfl)
  have HE1 := Lib.hid (show E.cells.toArray.all (·.oneCell') = true by rw [List.all_toArray, List.all_eq_true]; exact ent_one _)
  have hnew : (W1.alloc (.cells #[.string web] 9)).heap[g]? = some (.cells zeroA 29 (0, 0)) := by rw [heap_alloc_old _ _ (by omega)]; exact hb1
  have HNW := Lib.hid hnew
  have HSR := Lib.hid (srd_one W1 web 9)
  have HEC := Lib.hid (show E.cells.toArray = #[.int .i64 id, .int .i64 0, .int .i64 tick, .int .i64 20, .bool false, .int .i64 id, .int .i64 0, .int .i64 0, .int .i64 1, .slice (some ⟨W1.heap.size, 0, none⟩) 1 1, .int .i64 seq, .int .i64 pos, .int .i64 20] by rw [hE]; rfl)
  clear hs1 hb1 hB1 hg hW1 hE hnew
  go_wp2_with (refine wpList_store_row rfl 29 (.tmp 8) (.tmp 17) rfl g E.cells.toArray rfl (by rw [HEC.out]; rfl) 29 _ HNW.out HEi.out rfl HE1.out ?_)
  refine bodyPost_ret (results_cell_row rfl _ _ g 29 E.cells.toArray (0, 0) _ rfl (setRow_heap _ _ _ _ _ _ HNW.out) Try.underlying29 rfl HEi.out) rfl ?_
  refine ⟨some ⟨W1.heap.size, 0, none⟩, by rw [HE.out], ?_, below_setRow (B1.out.alloc (by have := HS.out; omega) _) (by have := HS.out; omega)⟩
  refine ⟨rfl, Nat.le_refl _, by decide, fun e => (by cases e), fun ad e _ => ?_⟩
  cases e
  refine ⟨_, 0, rfl, fun j hj => ?_⟩
  obtain rfl : j = 0 := by simp at hj; omega
  refine (World.cell?_of_block (w := W1.alloc (.cells #[.string web] 9)) (setRow_other _ _ _ _ (by have := HS.out; show W1.heap.size ≠ g; omega))).trans ?_
  simp
def a0 : Ask := ⟨⟨#[]⟩, 0, 0, -1, 0, 0, 2⟩
def n0 : Ask := ⟨⟨#[]⟩, 0, 0, -1, 3, 2, 2⟩
def b0 : Ask := ⟨db, 0, 0, -1, 0, 0, 2⟩
def LL (A1 A2 A3 : Option Addr) : List Ent := [one 4 1 1 0 A1, one 2 3 1 0 A2, one 9 3 1 0 A3]
theorem t0 : ((⟨#[]⟩ : ByteArray).toList == []) = true := by rw [ByteArray.toList_eq]; rfl
theorem t1 : (db.toList == []) = false := by rw [ByteArray.toList_eq]; rfl
theorem t2 : (db.toList == web.toList) = false := by rw [ByteArray.toList_eq, ByteArray.toList_eq]; rfl
theorem fit_a (id tick seq pos : Int) (A : Option Addr) : fits (one id tick seq pos A) a0 = beh 0 0 (one id tick seq pos A) := by
  rw [fits_eq]
  have : fits0 (one id tick seq pos A) a0 = true := by unfold fits0 fits1 fits2 fits3; rw [show a0.serv = ⟨#[]⟩ from rfl, t0]; simp [one, a0]
  rw [this]; rfl
theorem fit_n (id tick seq pos : Int) (A : Option Addr) : fits (one id tick seq pos A) n0 = beh 3 2 (one id tick seq pos A) := by
  rw [fits_eq]
  have : fits0 (one id tick seq pos A) n0 = true := by unfold fits0 fits1 fits2 fits3; rw [show n0.serv = ⟨#[]⟩ from rfl, t0]; simp [one, n0]
  rw [this]; rfl
theorem fit_b (id tick seq pos : Int) (A : Option Addr) : fits (one id tick seq pos A) b0 = false := by
  rw [fits_eq]
  have : fits0 (one id tick seq pos A) b0 = false := by unfold fits0 fits1; rw [show b0.serv = db from rfl, t1]; simp [one, has, t2]
  rw [this]; rfl
theorem beh_one (t i id tick seq pos : Int) (A : Option Addr) : beh t i (one id tick seq pos A) = (decide (t < tick) || (decide (tick = t) && decide (i < id))) := rfl
section
variable (A1 A2 A3 : Option Addr)
theorem fl_a : fl a0 (LL A1 A2 A3) = LL A1 A2 A3 := by simp [fl, LL, fit_a, beh_one]
theorem fl_n : fl n0 (LL A1 A2 A3) = [one 9 3 1 0 A3] := by simp [fl, LL, fit_n, beh_one]
theorem fl_b : fl b0 (LL A1 A2 A3) = [] := by simp [fl, LL, fit_b]
theorem run_a : run a0 (LL A1 A2 A3) = [4, 2] := by unfold run; rw [fl_a]; rfl
theorem run_n : run n0 (LL A1 A2 A3) = [9] := by unfold run; rw [fl_n]; rfl
theorem run_b : run b0 (LL A1 A2 A3) = [] := by unfold run; rw [fl_b]; rfl
theorem next_a : next a0 (LL A1 A2 A3) = (n0, true) := by unfold next; rw [fl_a]; rfl
theorem next_n : next n0 (LL A1 A2 A3) = (Ask.zero, false) := by unfold next; rw [fl_n]; rfl
end
theorem ents_fill3 (x y z : Ent) : Instr.fill (fun i => some (i * 13, 13)) ((Array.range (3 * 13)).map (zeroE.cells[· % zeroE.cells.size]!)) [(0, Value.agg x.cells.toArray), (1, .agg y.cells.toArray), (2, .agg z.cells.toArray)] = some (x.cells ++ (y.cells ++ z.cells)).toArray := by kernel_rfl
theorem wpList_build3 {ops : Array Oper} {rest : List Oper} {o : Oper} {a : Act} {w : World} {Q : Exit → Act → World → Prop} (hg : o.guard = none) (x y z : Tmp) (ho : o.op = .buildSlice 22 3 #[(0, .tmp x), (1, .tmp y), (2, .tmp z)]) (e1 e2 e3 : Ent)
    (hx : a.eval (.tmp x) = .agg e1.cells.toArray) (hy : a.eval (.tmp y) = .agg e2.cells.toArray) (hz : a.eval (.tmp z) = .agg e3.cells.toArray)
    (h : wpList Try.prog ops Q rest (a.put o.dst (.slice (some ⟨w.heap.size, 0, none⟩) 3 3)) (w.alloc (.cells (e1.cells ++ (e2.cells ++ e3.cells)).toArray 29))) : wpList Try.prog ops Q (o :: rest) a w := by
  obtain ⟨i0, hi, hz0, hz1, hz2⟩ := info_parts infoE
  refine wpList_buildSlice hg 22 29 3 _ ho _ i0 zeroE Try.underlying22 hi hz0 (by rw [hz1]; decide) (by rw [hz1]; decide) ?_ h
  rw [hz1]
  simp only [List.map_toArray, List.map_cons, List.map_nil, hx, hy, hz]
  exact ents_fill3 e1 e2 e3
theorem ents3 (w : World) (x y z : Ent) (hx : SRd w x.sA x.sn x.sc x.ss) (hy : SRd w y.sA y.sn y.sc y.ss) (hz : SRd w z.sA z.sn z.sc z.ss) :
    Ents (w.alloc (.cells (x.cells ++ (y.cells ++ z.cells)).toArray 29)) (some ⟨w.heap.size, 0, none⟩) 3 3 [x, y, z] := by
  have hb : Below w.heap.size w (w.alloc (.cells (x.cells ++ (y.cells ++ z.cells)).toArray 29)) := (Below.refl _ _).alloc (Nat.le_refl _) _
  refine ⟨rfl, Nat.le_refl _, by decide, fun e => (by cases e), fun ad e _ => ?_, fun e he => ?_⟩
  · cases e
    refine ⟨_, 0, rfl, fun j hj i hi => ?_⟩
    have hf : x.cells ++ (y.cells ++ z.cells) = [x, y, z].flatMap Ent.cells := by simp
    rw [Ent.cells_length] at hi
    rw [hf, World.cell?_alloc_at _ _ _ _ rfl, List.getElem?_toArray, Nat.zero_add, ents_cell' [x, y, z] j i hj hi]
  · rcases List.mem_cons.1 he with rfl | h1
    · exact hx.below hb
    · rcases List.mem_cons.1 h1 with rfl | h2
      · exact hy.below hb
      · obtain rfl := List.mem_singleton.1 h2
        exact hz.below hb
end Go.Proofs.Ytbfnjfmnblafaaa.Qry
