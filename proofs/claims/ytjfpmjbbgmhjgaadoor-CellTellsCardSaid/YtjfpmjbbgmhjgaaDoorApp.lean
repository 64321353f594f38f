/- Appends to rows of the call's own, at this seat's program. -/
import Derived.Test.YtjfpmjbbgmhjgaaDoorProg
import Derived.Test.YtjfpmjbbgmhjgaaDoorBase
import Derived.KernelRfl
namespace Go.Proofs.YtjfpmjbbgmhjgaaDoor
open Go.RowKit

theorem info5 : (Tryd.prog.info? 5).map (fun i => (i.zero, i.size, i.bytes)) = some (some (.int .u8 0), 1, 1) := by kernel_rfl
theorem below_grown {w0 w w' : World} {B : Nat} {row : Option Nat} (hb : Below B w0 w) (hg : w.grownBy w' row) (hB : B ≤ w.heap.size) (hr : ∀ k, row = some k → B ≤ k) : Below B w0 w' := hb.grown hg hB hr
theorem Own.ge {w : World} {k : IntKind} {e : TypeId} {base : Nat} {v : Value} {n : Nat} {l : List Int} (h : Own w k e base v n l) : ∀ j, v.ownBlock = some j → base ≤ j := fun j hj => (World.ownsRow.lt h j hj).1
theorem Own.empty (w : World) (k : IntKind) (e : TypeId) {base : Nat} (hb : base ≤ w.heap.size) : Own (w.alloc (.cells #[] e)) k e base (.slice (some ⟨w.heap.size, 0, none⟩) 0 0) 0 [] := World.ownsRow_made w #[] 0 hb (by decide) rfl
theorem Rd.one (w : World) (k : IntKind) (e : TypeId) (x : Int) : Rd (w.alloc (.cells #[.int k x] e)) k (some ⟨w.heap.size, 0, none⟩) 1 1 [x] :=
  ⟨rfl, Nat.le_refl _, by decide, (fun h => by cases h), fun ad e2 _ => by
    cases e2
    refine ⟨_, 0, rfl, fun j hj => ?_⟩
    obtain rfl : j = 0 := by omega
    simp⟩

theorem unguard {P : Program} {w : World} {ops : Array Oper} {rest : List Oper} {o : Oper} {a : Act} {Q : Exit → Act → World → Prop} (hw : Region.wanted o (yielded ops a.tmps) = true) (h : wpList P ops Q ({ o with guard := none } :: rest) a w) : wpList P ops Q (o :: rest) a w := by
  have h1 : Region.wanted { o with guard := none } (yielded ops a.tmps) = true := rfl
  unfold wpList at h ⊢
  rw [if_pos h1] at h
  rw [if_pos hw]
  exact h
/-- 'append(own, read...)', bytes. -/
theorem append_rd {w : World} {ops : Array Oper} {rest : List Oper} {o : Oper} {a : Act} {Q : Exit → Act → World → Prop} (hgw : Region.wanted o (yielded ops a.tmps) = true) (s x : Operand)
    (ho : o.op = .call { callee := .builtin .append, args := #[s, x], argTypes := #[22, 22] })
    (base : Nat) (v : Value) (n : Nat) (l : List Int) (hs : a.eval s = v) (hown : Own w .u8 5 base v n l)
    (A : Option Addr) (m c : Nat) (l2 : List Int) (hx : a.eval x = .slice A m c) (hr : Rd w .u8 A m c l2) (hb : n + m ≤ 140737488355328) (hbase : base ≤ w.heap.size)
    (h : ∀ v' w', Own w' .u8 5 base v' (n + m) (l ++ l2) → w.grownBy w' v.ownBlock → wpList Tryd.prog ops Q rest (a.put o.dst v') w') : wpList Tryd.prog ops Q (o :: rest) a w := by
  obtain ⟨i0, hi, hz0, hz1, hz2⟩ := info_parts info5
  refine unguard hgw ?_
  have hgd : ({ o with guard := none } : Oper).guard = none := rfl
  cases A with
  | none =>
    obtain ⟨rfl, rfl, rfl⟩ := hr.len0
    refine wpList_append_own_none hgd s x 22 ho base 5 i0 1 Tryd.underlying22 hi v n _ hs hown hx ?_
    refine h v w ?_ (World.grownBy.refl _ _)
    simpa using hown
  | some ad =>
    refine wpList_append_own _ hgd s x 22 ho base 5 i0 (.int .u8 0) 1 1 Tryd.underlying22 hi hz0 hz1 hz2 rfl (by decide) v n _ hs hown ad m c (l2.map (Value.int .u8)) hx (by simp [hr.len]) hr.cells (ints_one _ _) (by unfold maxLen; omega) (by omega) hbase ?_
    intro v' w' h1 h2 _
    refine h v' w' ?_ h2
    unfold Own
    rw [List.map_append]
    exact h1
end Go.Proofs.YtjfpmjbbgmhjgaaDoor
namespace Go.Proofs.YtjfpmjbbgmhjgaaDoor
open Go.RowKit
theorem Rd.lit (w : World) (k : IntKind) (e : TypeId) (l : List Int) (hl : l.length ≤ 9223372036854775807) : Rd (w.alloc (.cells (l.map (Value.int k)).toArray e)) k (some ⟨w.heap.size, 0, none⟩) l.length l.length l :=
  ⟨rfl, Nat.le_refl _, hl, (fun h => by cases h), fun ad e2 _ => by
    cases e2
    refine ⟨_, 0, rfl, fun j hj => ?_⟩
    rw [Nat.zero_add, World.cell?_alloc_at _ _ _ _ rfl, List.getElem?_toArray, List.getElem?_map, List.getElem?_eq_getElem hj, List.getD_eq_getElem?_getD, List.getElem?_eq_getElem hj]
    rfl⟩
end Go.Proofs.YtjfpmjbbgmhjgaaDoor
