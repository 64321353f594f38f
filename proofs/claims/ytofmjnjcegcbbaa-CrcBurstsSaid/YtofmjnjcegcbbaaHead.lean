/- head: the live question of layer 2, whose answer is fixed. -/
import Derived.Test.YtofmjnjcegcbbaaOpen
import Derived.Lib.SlBytesConst
namespace Go.Proofs.Ytofmjnjcegcbbaa.Crc
open Go.RowKit CrcMath

def L9 : List Int := [49, 50, 51, 52, 53, 54, 55, 56, 57]
theorem shut9 : shut L9 = [49, 50, 51, 52, 53, 54, 55, 56, 57, 131, 146, 6, 227] := by decide +kernel
theorem opens9 : opens (shut L9) = true := by decide +kernel
theorem inner9 : inner (shut L9) = L9 := by decide +kernel
theorem opens3 : opens [0, 0, 0] = false := by decide +kernel
theorem opens4 : opens [1, 0, 0, 0] = false := by decide +kernel
theorem opens0 : opens [0, 0, 0, 0] = true := by decide +kernel
theorem inner0 : inner [0, 0, 0, 0] = [] := by decide +kernel
theorem of9 : N (more 0#32 L9) = 3808858755 := by decide +kernel
theorem Rd.litm (w : World) (k : IntKind) (e : TypeId) (fr : Nat × Nat) (l : List Int) (hl : l.length ≤ 9223372036854775807) : Rd (w.alloc (.cells (l.map (Value.int k)).toArray e fr)) k (some ⟨w.heap.size, 0, none⟩) l.length l.length l :=
  ⟨rfl, Nat.le_refl _, hl, (fun h => by cases h), fun ad e2 _ => by
    cases e2
    refine ⟨_, 0, rfl, fun j hj => ?_⟩
    rw [Nat.zero_add, World.cell?_alloc_mark, List.getElem?_toArray, List.getElem?_map, List.getElem?_eq_getElem hj, List.getD_eq_getElem?_getD, List.getElem?_eq_getElem hj]
    rfl⟩
/-- Open of a row that is known: what it hands back, told whole. -/
theorem open_known (A : Option Addr) (n c : Nat) (l : List Int) (b : Bool) (l2 : List Int) (w : World) (hr : Rd w .u8 A n c l) (hbs : Bytes l) (hn : n ≤ 1000000) (ho : opens l = b) (hi : inner l = l2) :
    Calls Try.prog 10 #[.slice A n c] w fun e w' => (∃ A2 c2, e = .returned (.tuple #[.slice A2 l2.length c2, .bool b]) ∧ Rd w' .u8 A2 l2.length c2 l2) ∧ Below w.heap.size w w' := by
  refine (open_any A n c l w hr hbs hn).mono ?_
  rintro e w' ⟨⟨v, m, rfl, hown⟩, hb⟩
  rw [hi] at hown
  obtain ⟨A2, c2, rfl, hr2, _⟩ := hown.rd
  have hl := hown.len
  subst hl
  exact ⟨⟨A2, c2, by rw [ho], hr2⟩, hb⟩
theorem bytes_of_all {l : List Int} (h : (l.all fun x => decide (0 ≤ x ∧ x < 256)) = true) : Bytes l := fun x hx => by simpa using (List.all_eq_true.1 h) x hx
set_option maxHeartbeats 4000000 in
set_option maxRecDepth 100000 in
theorem head_any (w : World) : Calls Try.prog 9 #[] w fun e w' => e = .returned (.bool true) ∧ Below w.heap.size w w' := by
  have kc := fun (w : World) (C : Array Value) (n c : Nat) => Lib.run_convert_bytes_const (P := Try.prog) w 23 5 C n c Try.underlying23 Try.underlying5
  have hmk : ∀ w : World, (Instr.makeSlice 23 (.int .i64 4) (.int .i64 4)).run Try.prog w = .ok (.slice (some ⟨w.heap.size, 0, none⟩) 4 4) (w.alloc (.cells #[.int .u8 0, .int .u8 0, .int .u8 0, .int .u8 0] 5)) := fun _ => by kernel_rfl
  have B9 : Bytes L9 := bytes_of_all (by decide)
  have HB9 := Lib.hid B9
  clear B9
  go_enter Try.func9, Try.ntmps9
  go_wp2_with fail
  refine (seal_any _ 9 9 L9 _ (Rd.litm w .u8 5 (9, 10) L9 (by decide)) HB9.out (by decide)).mono ?_
  rintro e w1 ⟨⟨v1, rfl, ho1⟩, hb1⟩
  obtain ⟨A1, c1, rfl, hr1, _⟩ := ho1.rd
  have HR1 := Lib.hid hr1
  have HB1 := Lib.hid (below_trans ((Below.refl _ w).alloc (Nat.le_refl _) _) hb1 (by simp))
  clear hr1 hb1 ho1
  go_wp2_with fail
  refine (open_known A1 13 c1 (shut L9) true L9 _ HR1.out (shut_bytes HB9.out) (by decide) opens9 inner9).mono ?_
  rintro e w2 ⟨⟨A2, c2, rfl, hr2⟩, hb2⟩
  have HR2 := Lib.hid hr2
  have HR12 := Lib.hid (HR1.out.below hb2)
  have HB2 := Lib.hid (below_trans HB1.out hb2 HB1.out.size)
  clear hr2 hb2
  go_wp2_with fail
  refine (open_known _ 3 3 [0, 0, 0] false [] _ (Rd.lit w2 .u8 5 [0, 0, 0] (by decide)) (bytes_of_all (by decide)) (by decide) opens3 (by decide +kernel)).mono ?_
  rintro e w3 ⟨⟨A3, c3, rfl, hr3⟩, hb3⟩
  have hx3 := below_trans ((Below.refl _ w2).alloc (Nat.le_refl _) _) hb3 (by simp)
  have HR23 := Lib.hid (HR2.out.below hx3)
  have HR13 := Lib.hid (HR12.out.below hx3)
  have HB3 := Lib.hid (below_trans HB2.out hx3 HB2.out.size)
  clear hr3 hb3 hx3
  go_wp2_with fail
  refine (open_known _ 4 4 [1, 0, 0, 0] false [] _ (Rd.lit w3 .u8 5 [1, 0, 0, 0] (by decide)) (bytes_of_all (by decide)) (by decide) opens4 (by decide +kernel)).mono ?_
  rintro e w4 ⟨⟨A4, c4, rfl, hr4⟩, hb4⟩
  have hx4 := below_trans ((Below.refl _ w3).alloc (Nat.le_refl _) _) hb4 (by simp)
  have HR24 := Lib.hid (HR23.out.below hx4)
  have HR14 := Lib.hid (HR13.out.below hx4)
  have HB4 := Lib.hid (below_trans HB3.out hx4 HB3.out.size)
  clear hr4 hb4 hx4
  go_wp2_with fail
  refine (open_known _ 4 4 [0, 0, 0, 0] true [] _ (Rd.lit w4 .u8 5 [0, 0, 0, 0] (by decide)) (bytes_of_all (by decide)) (by decide) opens0 inner0).mono ?_
  rintro e w5 ⟨⟨A5, c5, rfl, hr5⟩, hb5⟩
  have hx5 := below_trans ((Below.refl _ w4).alloc (Nat.le_refl _) _) hb5 (by simp)
  have HR25 := Lib.hid (HR24.out.below hx5)
  have HR15 := Lib.hid (HR14.out.below hx5)
  have HB5 := Lib.hid (below_trans HB4.out hx5 HB4.out.size)
  clear hr5 hb5 hx5
  go_wp2_with fail
  refine (of_any _ 9 9 L9 _ (Rd.litm w5 .u8 5 (9, 10) L9 (by decide)) HB9.out).mono ?_
  rintro e w6 ⟨rfl, hb6⟩
  rw [of9]
  have hx6 := below_trans ((Below.refl _ w5).alloc (Nat.le_refl _) _) hb6 (by simp)
  have t1 := (HR15.out.below hx6).text (P := Try.prog) Try.underlying23 Try.underlying5 Try.underlying9
  have t2 := (HR25.out.below hx6).text (P := Try.prog) Try.underlying23 Try.underlying5 Try.underlying9
  have HB6 := Lib.hid (below_trans HB5.out hx6 HB5.out.size)
  have e1 : (strOfNums (shut L9)).toList = [49, 50, 51, 52, 53, 54, 55, 56, 57, 131, 146, 6, 227] := by rw [Lib.strOfNums_toList]; decide +kernel
  have e2 : (strOfNums L9).toList = [49, 50, 51, 52, 53, 54, 55, 56, 57] := by rw [Lib.strOfNums_toList]; decide +kernel
  clear hb6 hx6
  go_wp2_with fail
  have h7 : (7 : Int) = N 7#32 := by decide
  rw [h7]
  refine (more_any 7#32 none 0 0 [] _ (Rd.void _ _) (fun _ h => by cases h)).mono ?_
  rintro e w7 ⟨rfl, hb7⟩
  rw [more_nil, ← h7]
  have HB7 := Lib.hid (below_trans HB6.out hb7 HB6.out.size)
  clear hb7 h7
  go_wp2
  go_ret
  exact ⟨rfl, HB7.out⟩
end Go.Proofs.Ytofmjnjcegcbbaa.Crc
