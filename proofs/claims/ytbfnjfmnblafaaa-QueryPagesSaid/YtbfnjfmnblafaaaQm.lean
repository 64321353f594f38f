/- The plain law of the query: what Run and Next tell, as lists. -/
import Derived.Test.YtbfnjfmnblafaaaQ5
namespace Go.Proofs.Ytbfnjfmnblafaaa.Qry

/-- Those that fit. -/
def fl (a : Ask) (L : List Ent) : List Ent := L.filter (fun e => fits e a)
theorem fl_yes {a : Ask} {e : Ent} {L : List Ent} (h : fits e a = true) : fl a (e :: L) = e :: fl a L := by simp [fl, h]
theorem fl_no {a : Ask} {e : Ent} {L : List Ent} (h : ¬ fits e a = true) : fl a (e :: L) = fl a L := by simp [fl, h]
/-- What Run tells. -/
def run (a : Ask) (L : List Ent) : List Int := ((fl a L).take a.limit.toNat).map (·.it.id)
/-- What is to be asked for behind one. -/
def at1 (b : Ask) (e : Ent) : Ask := { b with tick := e.it.tick, id := e.it.id }
def updE (b : Ask) (es : List Ent) : Ask := es.foldl at1 b
/-- What is to be asked for behind what has been handed on. -/
def upd (a : Ask) (l : List (Item × Bool)) : Ask := l.foldl (fun b x => if x.2 then b else { b with tick := x.1.tick, id := x.1.id }) a
/-- Is there more, and a limit? -/
def more (a : Ask) (l : List (Item × Bool)) : Bool := l.any (·.2) && decide (0 < a.limit)
def Ask.zero : Ask := ⟨⟨#[]⟩, 0, 0, 0, 0, 0, 0⟩
def nxt (a : Ask) (o : List (Item × Bool)) : Ask × Bool := if more a o then (upd a o, true) else (Ask.zero, false)
/-- What Next tells. -/
def next (a : Ask) (L : List Ent) : Ask × Bool := if 0 < a.limit ∧ a.limit.toNat < (fl a L).length then (updE a ((fl a L).take a.limit.toNat), true) else (Ask.zero, false)

theorem outs_all (a : Ask) : ∀ (L : List Ent) (m : Nat) (b : Ask),
    ids (outs a m L) = ((fl a L).take (a.limit - m).toNat).map (·.it.id) ∧ (outs a m L).any (·.2) = decide ((a.limit - m).toNat < (fl a L).length) ∧ upd b (outs a m L) = updE b ((fl a L).take (a.limit - m).toNat)
  | [], m, b => by simp [outs, fl, ids, upd, updE]
  | e :: L, m, b => by
    by_cases hf : fits e a = true
    · rw [fl_yes hf]
      by_cases hl : a.limit < ((m + 1 : Nat) : Int)
      · have h0 : (a.limit - m).toNat = 0 := by omega
        rw [h0]
        have e1 : outs a m (e :: L) = [(e.it, true)] := by simp only [outs]; rw [if_pos hf, if_pos hl, decide_eq_true hl]
        rw [e1]
        refine ⟨rfl, ?_, rfl⟩
        simp
      · have h1 : (a.limit - m).toNat = (a.limit - ((m + 1 : Nat) : Int)).toNat + 1 := by omega
        have e1 : outs a m (e :: L) = (e.it, false) :: outs a (m + 1) L := by simp only [outs]; rw [if_pos hf, if_neg hl, decide_eq_false hl]
        obtain ⟨i1, i2, i3⟩ := outs_all a L (m + 1) (at1 b e)
        rw [e1, h1, List.take_succ_cons]
        refine ⟨?_, ?_, ?_⟩
        · rw [List.map_cons, ← i1]; rfl
        · rw [List.any_cons, i2, List.length_cons]
          simp
        · show upd (at1 b e) (outs a (m + 1) L) = _
          rw [i3]; rfl
    · rw [fl_no hf]
      have e1 : outs a m (e :: L) = outs a m L := by simp only [outs]; rw [if_neg hf]
      rw [e1]
      exact outs_all a L m b
theorem ids_outs (a : Ask) (L : List Ent) : ids (outs a 0 L) = run a L := by
  have := (outs_all a L 0 a).1
  simpa [run] using this
theorem nxt_outs (a : Ask) (L : List Ent) : nxt a (outs a 0 L) = next a L := by
  obtain ⟨_, h2, h3⟩ := outs_all a L 0 a
  unfold nxt next more
  rw [h2, h3]
  by_cases h1 : 0 < a.limit <;> by_cases h4 : a.limit.toNat < (fl a L).length <;> simp [h1, h4]

/-- One stands behind a place. -/
def beh (t i : Int) (e : Ent) : Bool := decide (t < e.it.tick) || (decide (e.it.tick = t) && decide (i < e.it.id))
theorem fits4_eq (e : Ent) (a : Ask) : fits4 e a = beh a.tick a.id e := by
  unfold fits4 beh
  have e1 : cmpL [e.it.tick, e.it.id] [a.tick, a.id] = if e.it.tick < a.tick then -1 else if a.tick < e.it.tick then 1 else if e.it.id < a.id then -1 else if a.id < e.it.id then 1 else 0 := rfl
  rw [e1, Bool.eq_iff_iff]
  simp only [Bool.or_eq_true, Bool.and_eq_true, decide_eq_true_eq]
  split
  · constructor <;> intro h <;> omega
  · split
    · constructor <;> intro h <;> omega
    · split
      · constructor <;> intro h <;> omega
      · split <;> constructor <;> intro h <;> omega
/-- In order: each one's place is behind that of those ahead of it. -/
def inOrder (L : List Ent) : Prop := L.Pairwise (fun x y => beh x.it.tick x.it.id y = true)
theorem beh_trans {t i : Int} {x y : Ent} (h : beh t i x = true) (k : beh x.it.tick x.it.id y = true) : beh t i y = true := by
  simp only [beh, Bool.or_eq_true, Bool.and_eq_true, decide_eq_true_eq] at *
  omega
theorem beh_irr {x : Ent} : beh x.it.tick x.it.id x = false := by
  simp [beh]
theorem beh_asym {x y : Ent} (h : beh x.it.tick x.it.id y = true) : beh y.it.tick y.it.id x = false := by
  cases hh : beh y.it.tick y.it.id x with
  | false => rfl
  | true =>
    simp only [beh, Bool.or_eq_true, Bool.and_eq_true, decide_eq_true_eq] at *
    omega
/-- Whatever but the place. -/
def fits0 (e : Ent) (a : Ask) : Bool := fits1 e a && (fits2 e a && fits3 e a)
theorem fits_eq (e : Ent) (a : Ask) : fits e a = (fits0 e a && beh a.tick a.id e) := by
  unfold fits fits0
  rw [fits4_eq]
  cases fits1 e a <;> cases fits2 e a <;> cases fits3 e a <;> rfl
/-- Behind one of those that fit there stand those behind it. -/
theorem fl_behind {a b : Ask} {L : List Ent} (hL : inOrder L) {j : Nat} (hj : j < (fl a L).length) (h0 : ∀ e, fits0 e b = fits0 e a) (ht : b.tick = ((fl a L)[j]).it.tick) (hi : b.id = ((fl a L)[j]).it.id) : fl b L = (fl a L).drop (j + 1) := by
  have hF : inOrder (fl a L) := List.Pairwise.filter _ hL
  obtain ⟨x, hx⟩ : ∃ x, x = (fl a L)[j] := ⟨_, rfl⟩
  rw [← hx] at ht hi
  have hxa : fits x a = true := by
    have : x ∈ fl a L := by rw [hx]; exact List.getElem_mem hj
    exact (List.mem_filter.1 this).2
  have hxb : beh a.tick a.id x = true := by rw [fits_eq] at hxa; exact (Bool.and_eq_true _ _ ▸ hxa).2
  have e1 : fl b L = (fl a L).filter (fun e => beh x.it.tick x.it.id e) := by
    unfold fl
    rw [List.filter_filter]
    apply List.filter_congr
    intro e _
    rw [fits_eq, fits_eq, h0, ht, hi]
    cases hb : beh x.it.tick x.it.id e with
    | false => simp
    | true => simp [beh_trans hxb hb]
  have hsplit : fl a L = (fl a L).take j ++ x :: (fl a L).drop (j + 1) := by
    rw [hx, ← List.drop_eq_getElem_cons hj, List.take_append_drop]
  rw [e1]
  rw [hsplit] at hF
  obtain ⟨_, h2, h3⟩ := List.pairwise_append.1 hF
  have e2 : ((fl a L).take j).filter (fun e => beh x.it.tick x.it.id e) = [] := by
    rw [List.filter_eq_nil_iff]
    intro y hy
    rw [beh_asym (h3 y hy x (List.mem_cons_self ..))]
    simp
  have e3 : ((fl a L).drop (j + 1)).filter (fun e => beh x.it.tick x.it.id e) = (fl a L).drop (j + 1) := by
    rw [List.filter_eq_self]
    exact fun y hy => List.rel_of_pairwise_cons h2 hy
  calc (fl a L).filter (fun e => beh x.it.tick x.it.id e)
      = ((fl a L).take j ++ x :: (fl a L).drop (j + 1)).filter (fun e => beh x.it.tick x.it.id e) := by rw [← hsplit]
    _ = _ := by rw [List.filter_append, e2, List.nil_append, List.filter_cons, beh_irr, e3]; rfl
theorem updE_last (b : Ask) : ∀ (l : List Ent) (h : l ≠ []), updE b l = at1 b (l.getLast h)
  | [x], _ => rfl
  | x :: y :: l, _ => by
    have := updE_last (at1 b x) (y :: l) (by simp)
    show updE (at1 b x) (y :: l) = _
    rw [this, List.getLast_cons (List.cons_ne_nil _ _)]
    rfl
end Go.Proofs.Ytbfnjfmnblafaaa.Qry
