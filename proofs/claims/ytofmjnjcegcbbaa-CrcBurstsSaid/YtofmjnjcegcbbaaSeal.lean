/- crc.Seal, bytes.Equal, crc.Open. -/
import Derived.Test.YtofmjnjcegcbbaaPrims
namespace Go.Proofs.Ytofmjnjcegcbbaa.Crc
open Go.RowKit CrcMath

theorem le_take (x : BitVec 32) (k : Nat) (h : k < 4) : (le x).take (k + 1) = (le x).take k ++ [N x / 2 ^ (8 * k) % 256] := by
  rcases (by omega : k = 0 ∨ k = 1 ∨ k = 2 ∨ k = 3) with rfl | rfl | rfl | rfl <;> simp [le]

theorem seal_step {w : World} {base n : Nat} {v : Value} {l : List Int} {x : BitVec 32} {y : Int} (k : Nat) (h4 : k < 4) (h : Own w .u8 5 base v (n + k + 1) (l ++ (le x).take k ++ [y])) (hy : y = N x / 2 ^ (8 * k) % 256) :
    Own w .u8 5 base v (n + (k + 1)) (l ++ (le x).take (k + 1)) := by
  rw [le_take x k h4, ← List.append_assoc, ← hy]
  exact h
set_option maxHeartbeats 1000000 in
theorem seal_any (A : Option Addr) (n c : Nat) (l : List Int) (w : World) (hr : Rd w .u8 A n c l) (hbs : Bytes l) (hn : n ≤ 1000000) :
    Calls Try.prog 16 #[.slice A n c] w fun e w' => (∃ v, e = .returned v ∧ Own w' .u8 5 w.heap.size v (n + 4) (shut l)) ∧ Below w.heap.size w w' := by
  have HR := Lib.hid hr
  have HB := Lib.hid hbs
  clear hr hbs
  go_enter Try.func16, Try.ntmps16
  go_wp2_with fail
  refine (clone_any A n c l _ HR.out hn).mono ?_
  rintro e w1 ⟨⟨v1, rfl, ho1⟩, hb1⟩
  have HO1 := Lib.hid ho1
  have HB1 := Lib.hid hb1
  clear ho1 hb1
  go_wp2_with fail
  refine (of_any A n c l _ (HR.out.below HB1.out) HB.out).mono ?_
  rintro e w2 ⟨rfl, hb2⟩
  have HO2 := Lib.hid (HO1.out.below hb2)
  have HB2 := Lib.hid (below_trans HB1.out hb2 HB1.out.size)
  clear hb2
  obtain ⟨x, hx⟩ : ∃ x, x = more 0#32 l := ⟨_, rfl⟩
  rw [← hx]
  have HX := Lib.hid hx
  have hx0 := (N_range x).1
  clear hx
  go_wp2_with fail
  go_loopw [3, 10] (fun v i wr => ∃ k : Nat, k ≤ 4 ∧ i = .int .i64 k ∧ Own wr .u8 5 w.heap.size v (n + k) (l ++ (le x).take k) ∧ Below w.heap.size w wr) (fun _ i _ => 4 - (intOf i).toNat)
  case atStart => exact ⟨0, by omega, rfl, by simpa using HO2.out, HB2.out⟩
  case round =>
    obtain ⟨k, hk, rfl, hown, hbel⟩ := hrel
    have HO := Lib.hid hown
    have HW := Lib.hid hbel
    clear hown hbel
    by_cases h4 : k < 4
    · have hsz : w.heap.size ≤ wr.heap.size := HW.out.size
      rcases (by omega : k = 0 ∨ k = 1 ∨ k = 2 ∨ k = 3) with rfl | rfl | rfl | rfl
      · go_wp2_with (refine append_rd rfl (.tmp 13) (.tmp 19) rfl w.heap.size _ _ _ rfl (HO.out.alloc _) (some ⟨wr.heap.size, 0, none⟩) 1 1 [_] rfl (Rd.one wr .u8 5 _) (by omega) (by simp; omega) ?_; intro v' w3 hown hg; have H1 := Lib.hid hown; have H2 := Lib.hid hg; clear hown hg)
        go_roundw
        case rel => exact ⟨0 + 1, by omega, by go_num, seal_step 0 (by omega) H1.out (by simp), below_grown (HW.out.alloc hsz _) H2.out (by simp; omega) HO.out.ge⟩
        case measure => simp [intOf]
      · go_wp2_with (refine append_rd rfl (.tmp 13) (.tmp 19) rfl w.heap.size _ _ _ rfl (HO.out.alloc _) (some ⟨wr.heap.size, 0, none⟩) 1 1 [_] rfl (Rd.one wr .u8 5 _) (by omega) (by simp; omega) ?_; intro v' w3 hown hg; have H1 := Lib.hid hown; have H2 := Lib.hid hg; clear hown hg)
        go_roundw
        case rel => exact ⟨1 + 1, by omega, by go_num, seal_step 1 (by omega) H1.out (by simp), below_grown (HW.out.alloc hsz _) H2.out (by simp; omega) HO.out.ge⟩
        case measure => simp [intOf]
      · go_wp2_with (refine append_rd rfl (.tmp 13) (.tmp 19) rfl w.heap.size _ _ _ rfl (HO.out.alloc _) (some ⟨wr.heap.size, 0, none⟩) 1 1 [_] rfl (Rd.one wr .u8 5 _) (by omega) (by simp; omega) ?_; intro v' w3 hown hg; have H1 := Lib.hid hown; have H2 := Lib.hid hg; clear hown hg)
        go_roundw
        case rel => exact ⟨2 + 1, by omega, by go_num, seal_step 2 (by omega) H1.out (by simp), below_grown (HW.out.alloc hsz _) H2.out (by simp; omega) HO.out.ge⟩
        case measure => simp [intOf]
      · go_wp2_with (refine append_rd rfl (.tmp 13) (.tmp 19) rfl w.heap.size _ _ _ rfl (HO.out.alloc _) (some ⟨wr.heap.size, 0, none⟩) 1 1 [_] rfl (Rd.one wr .u8 5 _) (by omega) (by simp; omega) ?_; intro v' w3 hown hg; have H1 := Lib.hid hown; have H2 := Lib.hid hg; clear hown hg)
        go_roundw
        case rel => exact ⟨3 + 1, by omega, by go_num, seal_step 3 (by omega) H1.out (by simp), below_grown (HW.out.alloc hsz _) H2.out (by simp; omega) HO.out.ge⟩
        case measure => simp [intOf]
    · have e4 : k = 4 := by omega
      subst e4
      clear h4 hk
      go_wp2
      go_ret
      exact ⟨⟨_, rfl, by have := HO.out; rw [List.take_of_length_le (by rw [le_length]; omega), HX.out] at this; exact this⟩, HW.out⟩

theorem equal_any (A B : Option Addr) (n c m d : Nat) (l k : List Int) (w : World) (hr : Rd w .u8 A n c l) (hs : Rd w .u8 B m d k) (hl : Bytes l) (hk : Bytes k) :
    Calls Try.prog 18 #[.slice A n c, .slice B m d] w fun e w' => e = .returned (.bool (decide (l = k))) ∧ w = w' := by
  have h1 := hr.text Try.underlying23 Try.underlying5 Try.underlying9
  have h2 := hs.text Try.underlying23 Try.underlying5 Try.underlying9
  have h3 := text_eq hl hk
  clear hr hs hl hk
  go_enter Try.func18, Try.ntmps18
  go_wp2
  go_ret
  exact ⟨rfl, rfl⟩
end Go.Proofs.Ytofmjnjcegcbbaa.Crc
