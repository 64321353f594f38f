/- slices.Contains over texts; the closures of query.Fits. -/
import Derived.Test.YtbfnjfmnblafaaaQ1
namespace Go.Proofs.Ytbfnjfmnblafaaa.Qry
open Go.RowKit

/-- Is a text among these? -/
def has (v : ByteArray) (l : List ByteArray) : Bool := l.any fun x => v.toList == x.toList
theorem has_take {v : ByteArray} {l : List ByteArray} {k : Nat} (h : k < l.length) : has v (l.take (k + 1)) = (has v (l.take k) || (v.toList == l[k].toList)) := by
  unfold has
  rw [List.take_succ_eq_append_getElem h, List.any_append]
  simp
theorem has_true {v : ByteArray} {l : List ByteArray} {k : Nat} (h : has v (l.take k) = true) : has v l = true := by
  unfold has at *
  rw [List.any_eq_true] at *
  obtain ⟨x, hx, he⟩ := h
  exact ⟨x, List.mem_of_mem_take hx, he⟩
def IndexPost (b : Bool) (e : Ending) : Prop := ∃ z : Int, e = .returned (.int .i64 z) ∧ decide (0 ≤ z) = b
set_option maxHeartbeats 2000000 in
theorem index_any (A : Option Addr) (n c : Nat) (l : List ByteArray) (v : ByteArray) (w : World) (hr : SRd w A n c l) :
    Calls Try.prog 34 #[.slice A n c, .string v] w fun e w' => IndexPost (has v l) e ∧ w = w' := by
  have h1 := hr.le
  have h2 := hr.small
  have R := Lib.hid hr
  have L := Lib.hid hr.len
  clear hr
  go_enter Try.func34, Try.ntmps34
  go_wp2_with fail
  go_loop [8] (fun i => ∃ k : Nat, k ≤ n ∧ i = .int .i64 k ∧ has v (l.take k) = false) (fun i => n - (intOf i).toNat)
  case atStart => exact ⟨0, Nat.zero_le _, rfl, rfl⟩
  case round =>
    obtain ⟨k, hk, rfl, heq⟩ := hrel
    have E := Lib.hid heq
    clear heq
    by_cases hlt : k < n
    · have hll : k < l.length := by rw [L.out]; exact hlt
      obtain ⟨ad, rfl, hc⟩ := R.out.cell k hll
      have hkn : (k : Int) < n := by omega
      have hs := has_take (v := v) hll
      rw [E.out, Bool.false_or] at hs
      obtain ⟨x, hx⟩ : ∃ x, x = l[k] := ⟨_, rfl⟩
      rw [← hx] at hc hs
      clear hx
      obtain ⟨t, ht⟩ : ∃ t, t = (v.toList == x.toList) := ⟨_, rfl⟩
      have ht' := ht.symm
      have HS : Hid (has v (l.take (k + 1)) = t) := Lib.hid (hs.trans ht')
      clear hs ht
      cases t with
      | true =>
        go_wp2
        go_ret
        exact ⟨⟨k, rfl, by rw [has_true HS.out]; exact decide_eq_true (by omega)⟩, rfl⟩
      | false =>
        go_wp2
        go_round
        case rel => exact ⟨k + 1, by omega, by go_num, HS.out⟩
        case measure => simp [intOf]; omega
    · have hkk : k = n := by omega
      have hkn : ¬ (k : Int) < n := by omega
      have e : has v l = false := by rw [← E.out, List.take_of_length_le (by rw [L.out]; omega)]
      have HE := Lib.hid e
      clear e hkk
      go_wp2
      go_ret
      exact ⟨⟨-1, rfl, by rw [HE.out]; rfl⟩, rfl⟩
theorem contains_any (A : Option Addr) (n c : Nat) (l : List ByteArray) (v : ByteArray) (w : World) (hr : SRd w A n c l) :
    Calls Try.prog 23 #[.slice A n c, .string v] w fun e w' => e = .returned (.bool (has v l)) ∧ w = w' := by
  have HI := Lib.hid (index_any A n c l v w hr)
  clear hr
  go_enter Try.func23, Try.ntmps23
  go_wp2_with fail
  refine HI.out.mono ?_
  rintro e w1 ⟨⟨z, rfl, hz⟩, rfl⟩
  go_wp2
  go_ret
  exact ⟨rfl, rfl⟩

/-- An item, a brief, an entry, what is asked for. -/
structure Item where
  id : Int
  cls : Int
  tick : Int
  cost : Int
  pin : Bool
structure Ent where
  it : Item
  bid : Int
  bfrom : Int
  bto : Int
  many : Int
  sA : Option Addr
  sn : Nat
  sc : Nat
  ss : List ByteArray
  seq : Int
  pos : Int
  size : Int
structure Ask where
  serv : ByteArray
  from_ : Int
  to_ : Int
  cls : Int
  tick : Int
  id : Int
  limit : Int
def Item.cells (x : Item) : List Value := [.int .i64 x.id, .int .i64 x.cls, .int .i64 x.tick, .int .i64 x.cost, .bool x.pin]
def Ent.cells (e : Ent) : List Value := e.it.cells ++ [.int .i64 e.bid, .int .i64 e.bfrom, .int .i64 e.bto, .int .i64 e.many, .slice e.sA e.sn e.sc, .int .i64 e.seq, .int .i64 e.pos, .int .i64 e.size]
def Ask.cells (a : Ask) : List Value := [.string a.serv, .int .i64 a.from_, .int .i64 a.to_, .int .i64 a.cls, .int .i64 a.tick, .int .i64 a.id, .int .i64 a.limit]
/-- What stands in a world from an offset of a block on. -/
def At (w : World) (b o : Nat) (cs : List Value) : Prop := ∀ j, (h : j < cs.length) → w.cell? ⟨b, o + j, none⟩ = some cs[j]
theorem At.below {w w1 : World} {b o : Nat} {cs : List Value} (h : At w b o cs) (hb : Below w.heap.size w w1) : At w1 b o cs :=
  fun j hj => (hb.cell (World.block_lt_of_cell? w _ (h j hj))).trans (h j hj)
/-- Is an entry asked for? -/
def fits1 (e : Ent) (a : Ask) : Bool := (a.serv.toList == []) || has a.serv e.ss
def fits2 (e : Ent) (a : Ask) : Bool := decide (e.bfrom ≤ a.to_) && decide (a.from_ ≤ e.bto)
def fits3 (e : Ent) (a : Ask) : Bool := decide (a.cls < 0) || (e.it.cls == a.cls)
def fits4 (e : Ent) (a : Ask) : Bool := decide (0 < cmpL [e.it.tick, e.it.id] [a.tick, a.id])
def fits (e : Ent) (a : Ask) : Bool := fits1 e a && (fits2 e a && (fits3 e a && fits4 e a))

/-- What a closure of Fits reads: the entry in block be, what is asked for in block ba. -/
structure Seen (w : World) (be ba : Nat) (e : Ent) (a : Ask) : Prop where
  ent : At w be 0 e.cells
  ask : At w ba 0 a.cells
  row : SRd w e.sA e.sn e.sc e.ss
theorem Seen.below {w w1 : World} {be ba : Nat} {e : Ent} {a : Ask} (h : Seen w be ba e a) (hb : Below w.heap.size w w1) : Seen w1 be ba e a := ⟨h.ent.below hb, h.ask.below hb, h.row.below hb⟩
set_option maxHeartbeats 2000000 in
theorem fits1_any (be ba : Nat) (e : Ent) (a : Ask) (w : World) (h : Seen w be ba e a) :
    Calls Try.prog 22 #[.pointer (some ⟨ba, 0, none⟩), .pointer (some ⟨be, 0, none⟩)] w fun r w' => r = .returned (.bool (fits1 e a)) ∧ w = w' := by
  have c1 : w.cell? ⟨ba, 0, none⟩ = some (.string a.serv) := h.ask 0 (by simp [Ask.cells])
  have c2 : w.cell? ⟨be, 9, none⟩ = some (.slice e.sA e.sn e.sc) := h.ent 9 (by simp [Ent.cells, Item.cells])
  have HC := Lib.hid (contains_any e.sA e.sn e.sc e.ss a.serv w h.row)
  clear h
  obtain ⟨t, ht⟩ : ∃ t, t = (a.serv.toList == []) := ⟨_, rfl⟩
  have ht' := ht.symm
  have HF : Hid (fits1 e a = (t || has a.serv e.ss)) := Lib.hid (by unfold fits1; rw [← ht])
  clear ht
  cases t with
  | true =>
    go_enter Try.func22, Try.ntmps22
    go_wp2
    go_ret
    exact ⟨by rw [HF.out]; rfl, rfl⟩
  | false =>
    go_enter Try.func22, Try.ntmps22
    go_wp2_with fail
    refine HC.out.mono ?_
    rintro e1 w1 ⟨rfl, rfl⟩
    go_wp2
    go_ret
    exact ⟨by rw [HF.out]; rfl, rfl⟩
end Go.Proofs.Ytbfnjfmnblafaaa.Qry
