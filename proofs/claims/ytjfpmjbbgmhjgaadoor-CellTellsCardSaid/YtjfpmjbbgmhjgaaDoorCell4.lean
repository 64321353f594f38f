/- slices.Grow from nothing, slices.Concat of three. -/
import Derived.Test.YtjfpmjbbgmhjgaaDoorCell2
namespace Go.Proofs.YtjfpmjbbgmhjgaaDoor.Crc
open Go.RowKit CrcMath

theorem zeros_bytes (m : Nat) : (Builtin.zeroCells (Value.int .u8 0).cells m).toList = (List.replicate m (0 : Int)).map (Value.int .u8) := by
  apply List.ext_getElem
  · simp [Builtin.zeroCells, Value.cells]
  · intro i h1 h2
    simp [Builtin.zeroCells, Value.cells, Nat.mod_one]
/-- 'append(own, make([]byte, m)...)'. -/
theorem append_zeros {w : World} {ops : Array Oper} {rest : List Oper} {o : Oper} {a : Act} {Q : Exit → Act → World → Prop} (hgd : o.guard = none) (s x : Operand)
    (ho : o.op = .call { callee := .builtin .append, args := #[s, x], argTypes := #[22, 3] })
    (base : Nat) (v : Value) (n : Nat) (l : List Int) (hs : a.eval s = v) (hown : Own w .u8 5 base v n l)
    (m : Nat) (hx : a.eval x = .int .i64 m) (hb : n + m ≤ 140737488355328) (hbase : base ≤ w.heap.size)
    (h : ∀ v' w', Own w' .u8 5 base v' (n + m) (l ++ List.replicate m 0) → w.grownBy w' v.ownBlock → wpList Tryd.prog ops Q rest (a.put o.dst v') w') : wpList Tryd.prog ops Q (o :: rest) a w := by
  obtain ⟨i0, hi, hz0, hz1, hz2⟩ := info_parts info5
  obtain ⟨v', w', hrun, ho2, hg, _⟩ := YtjfpmjbbgmhjgaaDoorW.PrintWords.run_append_zeros (P := Tryd.prog) w base 22 3 o.type 5 i0 (.int .u8 0) 1 1 Tryd.underlying22 Tryd.underlying3 hi hz0 hz1 hz2 rfl (by decide) (by decide) v n _ hown .i64 m (by rw [zeros_bytes]; exact ints_one _ _) (by omega) hbase
  refine wpList_plain hgd fun K hK => ?_
  refine Lib.wp_append_run w s x 22 3 ho v (.int .i64 m) hs hx v' w' hrun (hK _ _ (h v' w' ?_ hg))
  rw [zeros_bytes] at ho2
  unfold Own
  rw [List.map_append]
  exact ho2
/-- A cut of one's own row from its head, of length 0. -/
theorem Own.none_ {w : World} {k : IntKind} {e : TypeId} {base : Nat} {v : Value} {n : Nat} {l : List Int} (h : Own w k e base v n l) : ∃ A c, v = .slice A n c ∧ n ≤ c ∧ c ≤ 9223372036854775807 ∧ Own w k e base (.slice A 0 c) 0 [] := by
  have hl := h.1
  rcases h.2 with ⟨rfl, rfl⟩ | ⟨g, cap, cur, rfl, hb, hg, h1, h2, h3, h4⟩
  · exact ⟨none, 0, rfl, Nat.le_refl _, by omega, World.ownsRow_nil _ _ _ _⟩
  · exact ⟨_, cap, rfl, h1, by simpa [maxLen] using h2, rfl, .inr ⟨g, cap, cur, rfl, hb, hg, Nat.zero_le _, h2, h3, rfl⟩⟩
set_option maxHeartbeats 1000000 in
theorem grow_any (n : Nat) (h0 : 0 < n) (hn : n ≤ 1000000) (w : World) : Calls Tryd.prog 34 #[.slice none 0 0, .int .i64 n] w (RowPost w 0 []) := by
  have hp : (0 : Int) < n := by omega
  go_enter Tryd.func34, Tryd.ntmps34
  go_wp2_with (first | (at_builtin; refine append_zeros rfl (.tmp 20) (.tmp 21) rfl w.heap.size _ 0 [] rfl (World.ownsRow_nil _ _ _ _) n rfl (by omega) (Nat.le_refl _) ?_; intro v1 w1 hown hg; obtain ⟨A, c, rfl, hc1, hc2, hown2⟩ := Own.none_ hown; have H1 := Lib.hid hown2; have H2 := Lib.hid hg; clear hown hown2 hg))
  go_ret
  exact ⟨⟨_, rfl, H1.out⟩, below_grown (Below.refl _ _) H2.out (Nat.le_refl _) (fun k hk => by cases hk)⟩

/-- Three slices in a row. -/
structure Three (w : World) (g : Nat) (A1 : Option Addr) (n1 c1 : Nat) (l1 : List Int) (A2 : Option Addr) (n2 c2 : Nat) (l2 : List Int) (A3 : Option Addr) (n3 c3 : Nat) (l3 : List Int) : Prop where
  at1 : w.cell? ⟨g, 0, none⟩ = some (.slice A1 n1 c1)
  at2 : w.cell? ⟨g, 1, none⟩ = some (.slice A2 n2 c2)
  at3 : w.cell? ⟨g, 2, none⟩ = some (.slice A3 n3 c3)
  r1 : Rd w .u8 A1 n1 c1 l1
  r2 : Rd w .u8 A2 n2 c2 l2
  r3 : Rd w .u8 A3 n3 c3 l3
section
variable {w w1 : World} {g : Nat} {A1 : Option Addr} {n1 c1 : Nat} {l1 : List Int} {A2 : Option Addr} {n2 c2 : Nat} {l2 : List Int} {A3 : Option Addr} {n3 c3 : Nat} {l3 : List Int}
theorem Three.below (h : Three w g A1 n1 c1 l1 A2 n2 c2 l2 A3 n3 c3 l3) (hb : Below w.heap.size w w1) : Three w1 g A1 n1 c1 l1 A2 n2 c2 l2 A3 n3 c3 l3 :=
  ⟨(hb.cell (World.block_lt_of_cell? w _ h.at1)).trans h.at1, (hb.cell (World.block_lt_of_cell? w _ h.at2)).trans h.at2, (hb.cell (World.block_lt_of_cell? w _ h.at3)).trans h.at3, h.r1.below hb, h.r2.below hb, h.r3.below hb⟩
end
def sz3 (n1 n2 n3 : Nat) : Nat → Nat
  | 0 => 0
  | 1 => n1
  | 2 => n1 + n2
  | _ => n1 + n2 + n3
def cat3 (l1 l2 l3 : List Int) : Nat → List Int
  | 0 => []
  | 1 => l1
  | 2 => l1 ++ l2
  | _ => l1 ++ l2 ++ l3
set_option maxHeartbeats 2000000 in
theorem concat_any (g : Nat) (A1 : Option Addr) (n1 c1 : Nat) (l1 : List Int) (A2 : Option Addr) (n2 c2 : Nat) (l2 : List Int) (A3 : Option Addr) (n3 c3 : Nat) (l3 : List Int) (w : World) (h3 : Three w g A1 n1 c1 l1 A2 n2 c2 l2 A3 n3 c3 l3)
    (p1 : n1 ≤ 1000) (p2 : n2 ≤ 1000) (p3 : n3 ≤ 1000) (p0 : 0 < n1 + n2 + n3) :
    Calls Tryd.prog 24 #[.slice (some ⟨g, 0, none⟩) 3 3] w (RowPost w (n1 + n2 + n3) (l1 ++ l2 ++ l3)) := by
  have T := Lib.hid h3
  have t1 := h3.at1
  have t2 := h3.at2
  have t3 := h3.at3
  clear h3
  go_enter Tryd.func24, Tryd.ntmps24
  go_wp2_with fail
  go_loop [3, 11] (fun s i => ∃ k : Nat, k ≤ 3 ∧ i = .int .i64 k ∧ s = .int .i64 ((sz3 n1 n2 n3 k : Nat) : Int)) (fun _ i => 3 - (intOf i).toNat)
  case atStart => exact ⟨0, Nat.zero_le _, rfl, rfl⟩
  case round =>
    obtain ⟨k, hk, rfl, rfl⟩ := hrel
    match k, hk with
    | 0, _ =>
      simp only [sz3]
      go_wp2
      go_round
      case rel => exact ⟨1, by omega, by go_num, by simp⟩
      case measure => simp [intOf]
    | 1, _ =>
      simp only [sz3]
      go_wp2
      go_round
      case rel => exact ⟨2, by omega, by go_num, by simp⟩
      case measure => simp [intOf]
    | 2, _ =>
      simp only [sz3]
      go_wp2
      go_round
      case rel => exact ⟨3, by omega, by go_num, by simp⟩
      case measure => simp [intOf]
    | 3, _ =>
      obtain ⟨m, hm⟩ : ∃ m, m = sz3 n1 n2 n3 3 := ⟨_, rfl⟩
      rw [← hm]
      have hm1 : m = n1 + n2 + n3 := hm
      have hmp : 0 < m := by omega
      have hml : m ≤ 3000 := by omega
      have HM := Lib.hid hm1
      clear hm hm1
      go_wp2_with fail
      refine (grow_any m hmp (by omega) _).mono ?_
      rintro e w1 ⟨⟨v, rfl, ho⟩, hb⟩
      have O := Lib.hid ho
      have B := Lib.hid hb
      have T1 := Lib.hid (T.out.below hb)
      clear ho hb t1 t2 t3
      go_wp2_with fail
      go_loopw [6, 27] (fun v i wr => ∃ k : Nat, k ≤ 3 ∧ i = .int .i64 k ∧ Own wr .u8 5 w.heap.size v (sz3 n1 n2 n3 k) (cat3 l1 l2 l3 k) ∧ Below w.heap.size w wr) (fun _ i _ => 3 - (intOf i).toNat)
      case atStart => exact ⟨0, Nat.zero_le _, rfl, O.out, B.out⟩
      case round =>
      obtain ⟨k, hk, rfl, ho, hbel⟩ := hrel
      match k, hk with
      | 0, _ =>
        simp only [sz3, cat3] at ho
        have O1 := Lib.hid ho
        have X := Lib.hid hbel
        have hT := T.out.below hbel
        have q1 := hT.at1
        have q2 := hT.at2
        have q3 := hT.at3
        have TT := Lib.hid hT
        clear ho hbel hT
        go_wp2_with (at_builtin; refine append_rd rfl (.tmp 31) (.tmp 32) rfl w.heap.size _ _ _ rfl O1.out A1 n1 c1 l1 rfl TT.out.r1 (by omega) X.out.size ?_; intro v2 w2 hown hg; have H1 := Lib.hid hown; have H2 := Lib.hid hg; clear hown hg)
        go_roundw
        case rel => exact ⟨1, by omega, by go_num, by have := H1.out; simpa [sz3, cat3] using this, X.out.grown H2.out X.out.size O1.out.ge⟩
        case measure => simp [intOf]
      | 1, _ =>
        simp only [sz3, cat3] at ho
        have O1 := Lib.hid ho
        have X := Lib.hid hbel
        have hT := T.out.below hbel
        have q1 := hT.at1
        have q2 := hT.at2
        have q3 := hT.at3
        have TT := Lib.hid hT
        clear ho hbel hT
        go_wp2_with (at_builtin; refine append_rd rfl (.tmp 31) (.tmp 32) rfl w.heap.size _ _ _ rfl O1.out A2 n2 c2 l2 rfl TT.out.r2 (by omega) X.out.size ?_; intro v2 w2 hown hg; have H1 := Lib.hid hown; have H2 := Lib.hid hg; clear hown hg)
        go_roundw
        case rel => exact ⟨2, by omega, by go_num, by have := H1.out; simpa [sz3, cat3] using this, X.out.grown H2.out X.out.size O1.out.ge⟩
        case measure => simp [intOf]
      | 2, _ =>
        simp only [sz3, cat3] at ho
        have O1 := Lib.hid ho
        have X := Lib.hid hbel
        have hT := T.out.below hbel
        have q1 := hT.at1
        have q2 := hT.at2
        have q3 := hT.at3
        have TT := Lib.hid hT
        clear ho hbel hT
        go_wp2_with (at_builtin; refine append_rd rfl (.tmp 31) (.tmp 32) rfl w.heap.size _ _ _ rfl O1.out A3 n3 c3 l3 rfl TT.out.r3 (by omega) X.out.size ?_; intro v2 w2 hown hg; have H1 := Lib.hid hown; have H2 := Lib.hid hg; clear hown hg)
        go_roundw
        case rel => exact ⟨3, by omega, by go_num, by have := H1.out; simpa [sz3, cat3] using this, X.out.grown H2.out X.out.size O1.out.ge⟩
        case measure => simp [intOf]
      | 3, _ =>
        have O1 := Lib.hid ho
        have X := Lib.hid hbel
        clear ho hbel
        go_wp2
        go_ret
        exact ⟨⟨_, rfl, O1.out⟩, X.out⟩
end Go.Proofs.YtjfpmjbbgmhjgaaDoor.Crc
