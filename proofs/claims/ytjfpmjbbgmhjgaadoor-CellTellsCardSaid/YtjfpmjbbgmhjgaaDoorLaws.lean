/- The laws of layer 8: what comes in; CellZero, CellOther. -/
import Derived.Test.YtjfpmjbbgmhjgaaDoorCell10
import Derived.OpenShut
import Derived.StillTailTactics
namespace Go.Proofs.YtjfpmjbbgmhjgaaDoor.Crc
open Go.RowKit CrcMath

/-- How the row's slice comes in. -/
def IsRow (k : IntKind) (w : World) (a : Option Addr) (len cap : Nat) (zs : List Int) : Prop :=
  (a = none ∧ len = 0 ∧ cap = 0 ∧ zs = []) ∨
  ∃ x, a = some x ∧ len ≤ cap ∧ cap ≤ maxLen ∧ zs.length = cap ∧ (∀ i, i < zs.length → w.cell? (x.add i) = some (.int k (zs.getD i 0))) ∧ ∀ n ∈ zs, (Lit.int k n).wf = true
theorem IsRow.rd {k : IntKind} {w : World} {a : Option Addr} {len cap : Nat} {zs : List Int} (h : IsRow k w a len cap zs) : Rd w k a len cap (zs.take len) := by
  rcases h with ⟨rfl, rfl, rfl, rfl⟩ | ⟨x, rfl, h1, h2, h3, h4, _⟩
  · exact Rd.void _ _
  · refine ⟨by rw [List.length_take]; omega, h1, by simpa [maxLen] using h2, (fun e => by cases e), fun ad e h0 => ?_⟩
    cases e
    have hc := h4 0 (by omega)
    rw [show x.add 0 = x from rfl] at hc
    have hs : x.spot = none := by
      unfold World.cell? at hc
      cases hsp : x.spot with
      | none => rfl
      | some s =>
        rw [hsp] at hc
        split at hc
        · simp at hc
        · cases hc
    obtain ⟨b, o, s⟩ := x
    simp only at hs
    subst hs
    refine ⟨b, o, rfl, fun j hj => ?_⟩
    have := h4 j (by omega)
    rw [add_off] at this
    rw [this, List.getD_eq_getElem?_getD, List.getD_eq_getElem?_getD, List.getElem?_take, if_pos hj]
theorem IsRow.bytes {w : World} {a : Option Addr} {len cap : Nat} {zs : List Int} (h : IsRow .u8 w a len cap zs) : Bytes (zs.take len) := by
  intro x hx
  rcases h with ⟨_, _, _, rfl⟩ | ⟨_, _, _, _, _, _, h6⟩
  · simp at hx
  · have := bounds_u8 (h6 x (List.mem_of_mem_take hx))
    omega

theorem Own.store {w : World} {k : IntKind} {e : TypeId} {base g n c : Nat} {l : List Int} (h : Own w k e base (.slice (some ⟨g, 0, none⟩) n c) n l) (j : Nat) (y : Int) :
    Own (w.setCell ⟨g, j, none⟩ (.int k y)) k e base (.slice (some ⟨g, 0, none⟩) n c) n (l.set j y) := by
  have := (World.ownsRow.stored h j (.int k y)).1
  unfold Own
  rw [List.map_set]
  exact this
theorem Own.slot {w : World} {k : IntKind} {e : TypeId} {base n c : Nat} {A : Option Addr} {l : List Int} (h : Own w k e base (.slice A n c) n l) (h0 : 0 < n) : ∃ g, A = some ⟨g, 0, none⟩ ∧ base ≤ g := by
  rcases h.2 with ⟨he, hn⟩ | ⟨g, cap, cur, he, hb, _⟩
  · omega
  · cases he
    exact ⟨g, rfl, hb⟩
theorem Own.cell {w : World} {k : IntKind} {e : TypeId} {base g n c : Nat} {l : List Int} (h : Own w k e base (.slice (some ⟨g, 0, none⟩) n c) n l) (j : Nat) (hj : j < n) : w.cell? ⟨g, j, none⟩ = some (.int k (l.getD j 0)) := by
  rw [World.ownsRow.cellAt h j (by omega), List.getElem?_map, List.getElem?_eq_getElem (by rw [h.len]; exact hj), List.getD_eq_getElem?_getD, List.getElem?_eq_getElem (by rw [h.len]; exact hj)]
  rfl

/-- The smaller of two whole numbers. -/
def mn (a b : Int) : Int := if b < a then b else a
theorem min2_mn (k k' : IntKind) (x y : Int) : Builtin.min2 (.int k x) (.int k' y) = pure (.int k (mn x y)) := by simp only [Builtin.min2, mn]
theorem min_mn (ats : Array TypeId) (ty : TypeId) (a b : Value) : Builtin.min_ ats ty #[a, b] = (Builtin.min2 a b >>= fun s => pure s) := by simp only [Builtin.min_, List.foldlM_cons, List.foldlM_nil]

theorem mn2 {a b n : Nat} (h : n = min a b) : mn a b = n := by
  unfold mn
  split <;> omega
theorem part_zeros : part (List.replicate 64 0) = [] := rfl
theorem getv_zeros (q p : Int) : getv q p (List.replicate 64 0) = [] := by
  unfold getv
  split
  · rfl
  · rfl
theorem gets_short {q p : Int} {k : Nat} (h : k ≠ 64) : gets q p (List.replicate k 0) = false := by
  unfold gets
  refine decide_eq_false fun h2 => h ?_
  have := h2.1
  rwa [List.length_replicate] at this
theorem zeros_row (k : Nat) : Bytes (List.replicate k 0) := fun x hx => by rw [(List.mem_replicate.1 hx).2]; omega
set_option maxHeartbeats 4000000 in
set_option maxRecDepth 100000 in
theorem CellZero_walk (q p n0 : Int) (w : World) (_ : (Lit.int .i64 q).wf = true) (_ : (Lit.int .i64 p).wf = true) (hn : (Lit.int .u8 n0).wf = true) :
    Calls Tryd.prog 7 #[.int .i64 q, .int .i64 p, .int .u8 n0] w fun e w' => e = .returned (.bool true) ∧ Below w.heap.size w w' := by
  have hb := bounds_u8 hn
  obtain ⟨n, rfl⟩ := Int.eq_ofNat_of_zero_le hb.1
  obtain ⟨b1, hb1⟩ : ∃ b, b = gets q p (List.replicate 64 0) := ⟨_, rfl⟩
  have HB1 := Lib.hid hb1
  clear hb1
  go_enter Tryd.func7, Tryd.ntmps7
  go_wp2_with fail
  refine (head_any _).mono ?_
  rintro e w1 ⟨rfl, hb1⟩
  obtain ⟨g2, w2, hrun, ho2, _, hb2⟩ := make_own w1 64 (by omega)
  have hrun' : (Instr.makeSlice 22 (.int .i64 64) (.int .i64 64)).run Tryd.prog w1 = .ok (.slice (some ⟨g2, 0, none⟩) 64 64) w2 := hrun
  obtain ⟨A2, c2, e2, hr2, _⟩ := ho2.rd
  cases e2
  have B2 := Lib.hid (below_trans hb1 hb2 hb1.size)
  have R2 := Lib.hid hr2
  clear ho2 hb1 hb2 hrun hr2
  go_wp2_with fail
  refine (get_reads b1 [] _ 64 64 _ q p _ R2.out (zeros_row 64) HB1.out.symm (getv_zeros q p)).mono ?_
  rintro e w3 ⟨⟨A3, c3, rfl, _⟩, hb3⟩
  have B3 := Lib.hid (below_trans B2.out hb3 B2.out.size)
  clear hb3 hrun'
  have rest : ∀ k : Nat, k ≤ 255 → k ≠ 64 → ∃ g4 w4, (Instr.makeSlice 22 (.int .i64 (k : Int)) (.int .i64 (k : Int))).run Tryd.prog w3 = .ok (.slice (some ⟨g4, 0, none⟩) k k) w4 ∧ Rd w4 .u8 (some ⟨g4, 0, none⟩) k k (List.replicate k 0) ∧ Below w.heap.size w w4 := by
    intro k hk _
    obtain ⟨g4, w4, hrun, ho4, _, hb4⟩ := make_own w3 k (by omega)
    obtain ⟨A4, c4, e4, hr4, _⟩ := ho4.rd
    cases e4
    exact ⟨g4, w4, hrun, hr4, below_trans B3.out hb4 B3.out.size⟩
  by_cases h64 : n = 64
  · subst h64
    obtain ⟨g4, w4, hrun, hr4, hb4⟩ := rest 65 (by omega) (by omega)
    have hrun' : (Instr.makeSlice 22 (.int .i64 65) (.int .i64 65)).run Tryd.prog w3 = .ok (.slice (some ⟨g4, 0, none⟩) 65 65) w4 := hrun
    have R4 := Lib.hid hr4
    have B4 := Lib.hid hb4
    clear hrun hr4 hb4 rest
    go_wp2_with fail
    refine (get_reads false [] _ 65 65 _ q p _ R4.out (zeros_row 65) (gets_short (by omega)) (getv_none (gets_short (by omega)))).mono ?_
    rintro e w5 ⟨⟨A5, c5, rfl, _⟩, hb5⟩
    have B5 := Lib.hid (below_trans B4.out hb5 B4.out.size)
    clear hb5
    go_wp2
    go_ret
    exact ⟨rfl, B5.out⟩
  · obtain ⟨g4, w4, hrun, hr4, hb4⟩ := rest n (by omega) h64
    have hd1 : decide ((n : Int) = 64) = false := decide_eq_false (by omega)
    have hd2 : ((n : Int) == 64) = false := by rw [beq_eq_false_iff_ne]; omega
    have HN := Lib.hid h64
    have R4 := Lib.hid hr4
    have B4 := Lib.hid hb4
    clear hr4 hb4 rest h64
    go_wp2_with fail
    refine (get_reads false [] _ n n _ q p _ R4.out (zeros_row n) (gets_short HN.out) (getv_none (gets_short HN.out))).mono ?_
    rintro e w5 ⟨⟨A5, c5, rfl, _⟩, hb5⟩
    have B5 := Lib.hid (below_trans B4.out hb5 B4.out.size)
    clear hb5
    go_wp2
    go_ret
    exact ⟨rfl, B5.out⟩
attribute [local go_sem] min2_mn min_mn
set_option maxHeartbeats 4000000 in
set_option maxRecDepth 100000 in
theorem CellOther_walk (s0 t0 k0 j0 : Int) (A : Option Addr) (n c : Nat) (zs : List Int) (w : World) (hs : (Lit.int .u32 s0).wf = true) (ht : (Lit.int .u32 t0).wf = true) (hk : (Lit.int .u8 k0).wf = true) (hj : (Lit.int .u8 j0).wf = true) (hz : IsRow .u8 w A n c zs) :
    Calls Tryd.prog 5 #[.int .u32 s0, .int .u32 t0, .int .u8 k0, .int .u8 j0, .slice A n c] w fun e w' => e = .returned (.bool true) ∧ Below w.heap.size w w' := by
  have bs := bounds_u32 hs
  have bt := bounds_u32 ht
  have bk := bounds_u8 hk
  have bj := bounds_u8 hj
  obtain ⟨m, hm⟩ : ∃ m, m = min n 59 := ⟨_, rfl⟩
  have hm1 : m ≤ n := by omega
  have hm2 : m ≤ 59 := by omega
  have hmn : mn (n : Int) 59 = (m : Int) := mn2 (b := 59) hm
  have hle := hz.rd.le
  have hsm := hz.rd.small
  have R := Lib.hid (hz.rd.take m hm1)
  have Y := Lib.hid (take_bytes hz.bytes m)
  generalize (zs.take n).take m = l at R Y
  have L := Lib.hid R.out.len
  clear hs ht hk hj hz hm
  obtain ⟨q1, hq1⟩ : ∃ q, q = 1 + s0 / 2 := ⟨_, rfl⟩
  obtain ⟨q2, hq2⟩ : ∃ q, q = 1 + t0 / 2 := ⟨_, rfl⟩
  have r11 : right q1 k0 = true := right_mk (by omega)
  have r21 : right q2 k0 = true := right_mk (by omega)
  have r12 : right q1 j0 = true := right_mk (by omega)
  have hl59 : l.length ≤ 59 := by rw [L.out]; exact hm2
  have hput := put_right r11 hl59
  have e1 := gets_number hl59 Y.out r11 r21
  have e2 := gets_place hl59 Y.out r11 r12
  have hlen := sector_length (q := q1) (p := k0) hl59
  have hsb := sector_bytes (q := q1) (p := k0) hl59 Y.out
  have hw1 := hq1.symm
  have hw2 := hq2.symm
  clear hq1 hq2
  generalize sector q1 k0 l = S at *
  have HP := Lib.hid hput
  have E1 := Lib.hid e1
  have E2 := Lib.hid e2
  have HL := Lib.hid hlen
  have HS := Lib.hid hsb
  clear r11 r21 r12 hl59 hput e1 e2 hlen hsb
  go_enter Tryd.func5, Tryd.ntmps5
  go_wp2_with fail
  refine (head_any _).mono ?_
  rintro e w1 ⟨rfl, hb1⟩
  have B1 := Lib.hid hb1
  clear hb1
  go_wp2_with fail
  refine (put_any q1 k0 A m c l _ (R.out.below B1.out) Y.out).mono ?_
  rintro e w2 ⟨⟨v2, rfl, ho2⟩, hb2⟩
  rw [HP.out, HL.out] at ho2
  obtain ⟨A2, c2, rfl, hr2, _⟩ := ho2.rd
  have B2 := Lib.hid (below_trans B1.out hb2 B1.out.size)
  have R2 := Lib.hid hr2
  clear ho2 hb2 hr2
  go_wp2_with fail
  refine (get_reads _ _ A2 64 c2 S q2 k0 _ R2.out HS.out E1.out rfl).mono ?_
  rintro e w3 ⟨⟨A3, c3, rfl, _⟩, hb3⟩
  have B3 := Lib.hid (below_trans B2.out hb3 B2.out.size)
  have R3 := Lib.hid (R2.out.below hb3)
  clear hb3
  go_wp2_with fail
  refine (get_reads _ _ A2 64 c2 S q1 j0 _ R3.out HS.out E2.out rfl).mono ?_
  rintro e w4 ⟨⟨A4, c4, rfl, _⟩, hb4⟩
  have B4 := Lib.hid (below_trans B3.out hb4 B3.out.size)
  clear hb4
  have x1 : (decide (q2 = q1) == (q1 == q2)) = true := by
    rw [beq_iff_eq, Bool.eq_iff_iff, decide_eq_true_eq, beq_iff_eq]; exact ⟨fun h => h.symm, fun h => h.symm⟩
  have x2 : (decide (j0 = k0) == (k0 == j0)) = true := by
    rw [beq_iff_eq, Bool.eq_iff_iff, decide_eq_true_eq, beq_iff_eq]; exact ⟨fun h => h.symm, fun h => h.symm⟩
  go_wp2
  go_ret
  exact ⟨rfl, B4.out⟩
end Go.Proofs.YtjfpmjbbgmhjgaaDoor.Crc
