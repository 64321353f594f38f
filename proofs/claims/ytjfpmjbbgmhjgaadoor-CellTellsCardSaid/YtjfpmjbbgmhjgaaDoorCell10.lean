/- The laws' head, at layer 8. -/
import Derived.Test.YtjfpmjbbgmhjgaaDoorCellMath
import Derived.OwnWalk
import Derived.Lib.SlBytesConst
namespace Go.Proofs.YtjfpmjbbgmhjgaaDoor.Crc
open Go.RowKit CrcMath

theorem Rd.litm (w : World) (k : IntKind) (e : TypeId) (fr : Nat × Nat) (l : List Int) (hl : l.length ≤ 9223372036854775807) : Rd (w.alloc (.cells (l.map (Value.int k)).toArray e fr)) k (some ⟨w.heap.size, 0, none⟩) l.length l.length l :=
  ⟨rfl, Nat.le_refl _, hl, (fun h => by cases h), fun ad e2 _ => by
    cases e2
    refine ⟨_, 0, rfl, fun j hj => ?_⟩
    rw [Nat.zero_add, World.cell?_alloc_mark, List.getElem?_toArray, List.getElem?_map, List.getElem?_eq_getElem hj, List.getD_eq_getElem?_getD, List.getElem?_eq_getElem hj]
    rfl⟩
theorem made_bytes (n : Nat) : (madeCells (Value.int .u8 0).cells (n * 1)).toList = (List.replicate n (0 : Int)).map (Value.int .u8) := by
  apply List.ext_getElem
  · simp [madeCells]
  · intro i h1 h2
    simp [madeCells, Value.cells, Nat.mod_one]
theorem make_own (w : World) (n : Nat) (hn : n ≤ 9000) : ∃ g w', (Instr.makeSlice 22 (.int .i64 (n : Int)) (.int .i64 (n : Int))).run Tryd.prog w = .ok (.slice (some ⟨g, 0, none⟩) n n) w' ∧
    Own w' .u8 5 w.heap.size (.slice (some ⟨g, 0, none⟩) n n) n (List.replicate n 0) ∧ w.heap.size ≤ g ∧ Below w.heap.size w w' := by
  obtain ⟨i0, hi, hz0, hz1, hz2⟩ := info_parts info5
  obtain ⟨w2, hrun, ho, hg⟩ := run_make_full (P := Tryd.prog) w w.heap.size 22 5 i0 (.int .u8 0) 1 Tryd.underlying22 hi hz0 hz1 .i64 .i64 n (by rw [hz2]; omega) (by simp [maxLen]; omega) (Nat.le_refl _)
  rw [made_bytes] at ho
  exact ⟨w.heap.size, w2, hrun, ho, Nat.le_refl _, ⟨hg.os, hg.tape, hg.output, hg.size, fun k hk => hg.block k hk (by simp)⟩⟩
theorem ab_text : (strOfNums [97, 98]).toList = [97, 98] := by rw [Lib.strOfNums_toList]; decide +kernel
/-- Get's rows, told by what they read. -/
theorem get_reads (b : Bool) (v : List Int) (A : Option Addr) (n c : Nat) (l : List Int) (q p : Int) (w : World) (hr : Rd w .u8 A n c l) (hb : Bytes l) (h1 : gets q p l = b) (h2 : getv q p l = v) :
    Calls Tryd.prog 9 #[.slice A n c, .int .i64 q, .int .i64 p] w fun e w' => (∃ A2 c2, e = .returned (.tuple #[.slice A2 v.length c2, .bool b]) ∧ Rd w' .u8 A2 v.length c2 v) ∧ Below w.heap.size w w' := by
  refine (get_any A n c l q p w hr hb).mono ?_
  rintro e w' ⟨⟨v1, m, rfl, hown⟩, hb⟩
  rw [h2] at hown
  obtain ⟨A2, c2, rfl, hr2, _⟩ := hown.rd
  have := hr2.len
  subst this
  exact ⟨⟨A2, c2, by rw [h1], hr2⟩, hb⟩
theorem getv_none {q p : Int} {s : List Int} (h : gets q p s = false) : getv q p s = [] := by unfold getv; rw [h]; rfl
set_option maxHeartbeats 8000000 in
set_option maxRecDepth 100000 in
theorem head_any (w : World) : Calls Tryd.prog 8 #[] w fun e w' => e = .returned (.bool true) ∧ Below w.heap.size w w' := by
  have hab : Bytes [97, 98] := by intro x hx; simp at hx; omega
  have hr1 : right 7 3 = true := rfl
  have hr2 : right 8 3 = true := rfl
  have hr3 : right 7 4 = true := rfl
  have h2 : ([97, 98] : List Int).length ≤ 59 := by decide
  have g1 := gets_same (q := 7) (p := 3) h2 hab hr1
  have v1 := getv_same (q := 7) (p := 3) h2 hab hr1
  have g2 : gets 8 3 (sector 7 3 [97, 98]) = false := by rw [gets_number h2 hab hr1 hr2]; rfl
  have g3 : gets 7 4 (sector 7 3 [97, 98]) = false := by rw [gets_place h2 hab hr1 hr3]; rfl
  have hput : put 7 3 [97, 98] = sector 7 3 [97, 98] := put_right hr1 h2
  have hlen := sector_length (q := 7) (p := 3) h2
  have hsb := sector_bytes (q := 7) (p := 3) h2 hab
  have hp0 : (sector 7 3 [97, 98]).getD 0 0 = 2 := rfl
  have hp3 : (sector 7 3 [97, 98]).getD 3 0 = 0 := rfl
  generalize sector 7 3 [97, 98] = S at *
  have HAB := Lib.hid hab
  have G1 := Lib.hid g1
  have V1 := Lib.hid v1
  have G2 := Lib.hid g2
  have G3 := Lib.hid g3
  have HP := Lib.hid hput
  have HL := Lib.hid hlen
  have HB := Lib.hid hsb
  have H0 := Lib.hid hp0
  have H3 := Lib.hid hp3
  clear hab hr1 hr2 hr3 h2 g1 v1 g2 g3 hput hlen hsb hp0 hp3
  have kc := fun (w : World) (C : Array Value) (n c : Nat) => Lib.run_convert_bytes_const (P := Tryd.prog) w 22 5 C n c Tryd.underlying22 Tryd.underlying5
  go_enter Tryd.func8, Tryd.ntmps8
  go_wp2_with fail
  refine (put_any 7 3 (some ⟨w.heap.size, 0, none⟩) 2 2 [97, 98] _ (Rd.litm w .u8 5 (2, 3) [97, 98] (by decide)) HAB.out).mono ?_
  rintro e w1 ⟨⟨v1, rfl, ho1⟩, hb1⟩
  rw [HP.out, HL.out] at ho1
  have B1 := Lib.hid (below_trans ((Below.refl w.heap.size w).alloc (Nat.le_refl _) _) hb1 (by simp))
  clear hb1
  obtain ⟨A1, c, rfl, hr1, _⟩ := ho1.rd
  obtain ⟨g, e1, _⟩ : ∃ g, A1 = some ⟨g, 0, none⟩ ∧ w.heap.size ≤ g := by
    rcases ho1.2 with ⟨he, hn⟩ | ⟨g, cap, cur, he, hb, _⟩
    · omega
    · cases he
      exact ⟨g, rfl, by simp at hb; omega⟩
  subst e1
  have hc0 := (hr1.cell 0 (by omega))
  have hc3 := (hr1.cell 3 (by omega))
  obtain ⟨ad, ea, hc0⟩ := hc0
  cases ea
  obtain ⟨ad, ea, hc3⟩ := hc3
  cases ea
  rw [H0.out, add_off] at hc0
  rw [H3.out, add_off] at hc3
  have R1 := Lib.hid hr1
  have C0' := Lib.hid hc0
  have C3' := Lib.hid hc3
  clear ho1 hr1 hc0 hc3 kc
  go_wp2_with fail
  refine (get_reads true [97, 98] _ 64 c S 7 3 _ R1.out HB.out G1.out V1.out).mono ?_
  rintro e w2 ⟨⟨A2, c2, rfl, hr2⟩, hb2⟩
  have B2 := Lib.hid (below_trans B1.out hb2 B1.out.size)
  have K2 := Lib.hid hb2
  have R2' : Hid (Rd w2 .u8 A2 2 c2 [97, 98]) := Lib.hid hr2
  clear hb2 hr2
  go_wp2_with fail
  refine (get_reads false [] _ 64 c S 8 3 _ (R1.out.below K2.out) HB.out G2.out (getv_none G2.out)).mono ?_
  rintro e w3 ⟨⟨A3, c3, rfl, hr3⟩, hb3⟩
  have B3 := Lib.hid (below_trans B2.out hb3 B2.out.size)
  have K3 := Lib.hid (below_trans K2.out hb3 K2.out.size)
  have R23 := Lib.hid (R2'.out.below hb3)
  clear hb3 hr3
  go_wp2_with fail
  refine (get_reads false [] _ 64 c S 7 4 _ (R1.out.below K3.out) HB.out G3.out (getv_none G3.out)).mono ?_
  rintro e w4 ⟨⟨A4, c4, rfl, hr4⟩, hb4⟩
  have B4 := Lib.hid (below_trans B3.out hb4 B3.out.size)
  have K4 := Lib.hid (below_trans K3.out hb4 K3.out.size)
  have R2 := Lib.hid (R23.out.below hb4)
  have C0 := Lib.hid ((K4.out.cell (World.block_lt_of_cell? _ _ C0'.out)).trans C0'.out)
  have C3 := Lib.hid ((K4.out.cell (World.block_lt_of_cell? _ _ C3'.out)).trans C3'.out)
  clear hb4 hr4
  have tx := R2.out.text (P := Tryd.prog) Tryd.underlying22 Tryd.underlying5 Tryd.underlying9
  have c0 := C0.out
  have c3' := C3.out
  have ab := ab_text
  go_wp2_with fail
  refine (put_any 0 3 none 0 0 [] _ (Rd.void _ _) (fun _ h => by cases h)).mono ?_
  rintro e w5 ⟨⟨v5, rfl, ho5⟩, hb5⟩
  rw [show put 0 3 [] = [] from rfl] at ho5
  obtain ⟨A5, c5, rfl, _, _⟩ := ho5.rd
  have B5 := Lib.hid (below_trans B4.out hb5 B4.out.size)
  obtain ⟨g2, w6, hrun, ho6, _, hb6⟩ := make_own w5 60 (by omega)
  have hrun' : (Instr.makeSlice 22 (.int .i64 60) (.int .i64 60)).run Tryd.prog w5 = .ok (.slice (some ⟨g2, 0, none⟩) 60 60) w6 := hrun
  obtain ⟨A6, c6, e6, hr6, _⟩ := ho6.rd
  cases e6
  have R6 := Lib.hid hr6
  have B6 := Lib.hid (below_trans B5.out hb6 B5.out.size)
  clear ho5 hb5 hrun ho6 hb6 hr6 tx c0 c3' ab
  go_wp2_with fail
  refine (put_any 7 3 (some ⟨g2, 0, none⟩) 60 60 _ _ R6.out (fun x hx => by rw [(List.mem_replicate.1 hx).2]; omega)).mono ?_
  rintro e w7 ⟨⟨v7, rfl, ho7⟩, hb7⟩
  rw [put_long (by simp)] at ho7
  obtain ⟨A7, c7, rfl, _, _⟩ := ho7.rd
  have B7 := Lib.hid (below_trans B6.out hb7 B6.out.size)
  clear ho7 hb7 hrun'
  go_wp2_with fail
  refine (room_any _).mono ?_
  rintro e w8 ⟨rfl, rfl⟩
  go_wp2_with fail
  refine (right_any 2147483648 255 _).mono ?_
  rintro e w9 ⟨rfl, rfl⟩
  rw [show right 2147483648 255 = true from rfl]
  go_wp2_with fail
  refine (right_any 1 256 _).mono ?_
  rintro e w10 ⟨rfl, rfl⟩
  rw [show right 1 256 = false from rfl]
  go_wp2
  go_ret
  exact ⟨rfl, B7.out⟩
end Go.Proofs.YtjfpmjbbgmhjgaaDoor.Crc
