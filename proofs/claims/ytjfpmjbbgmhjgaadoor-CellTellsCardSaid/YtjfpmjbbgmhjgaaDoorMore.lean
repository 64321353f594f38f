/- crc.More: the sum gone on with, four bits at a time. -/
import Derived.Test.YtjfpmjbbgmhjgaaDoorTable
import Derived.Test.YtjfpmjbbgmhjgaaDoorBase
import Derived.Deep.WholeRow
namespace Go.Proofs.YtjfpmjbbgmhjgaaDoor.Crc
open Go.RowKit CrcMath

theorem raw_snoc (r : BitVec 32) (l : List Int) (k : Nat) (h : k < l.length) : raw r (l.take (k + 1)) = up (raw r (l.take k)) (l.getD k 0) := by
  rw [List.take_succ_eq_append_getElem h, raw_append, List.getD_eq_getElem?_getD, List.getElem?_eq_getElem h]
  rfl
theorem tab_at (m : Nat) (h : m < 16) : (tabList 16).toArray[m]? = some (.int .u32 (T m)) := by
  rw [List.getElem?_toArray, tabList_get _ _ h, if_pos h]

set_option maxHeartbeats 1000000 in
set_option maxRecDepth 100000 in
theorem more_any (s : BitVec 32) (A : Option Addr) (n c : Nat) (l : List Int) (w : World) (hr : Rd w .u8 A n c l) (hbs : Bytes l) :
    Calls Tryd.prog 33 #[.int .u32 (N s), .slice A n c] w fun e w' => e = .returned (.int .u32 (N (more s l))) ∧ Below w.heap.size w w' := by
  obtain ⟨C, hC⟩ : ∃ C, C = (tabList 16).toArray := ⟨_, rfl⟩
  have hC16 : C.size = 16 := by rw [hC]; simp [tabList_length]
  have hC1 : C.all (·.oneCell') = true := by
    rw [hC]
    simp only [List.all_toArray, tabList, List.all_map, List.all_eq_true]
    intro i _
    show (if i < 16 then Value.int .u32 (T i) else Value.int .u32 0).oneCell' = true
    split <;> rfl
  have hCT : ∀ m, m < 16 → C[m]? = some (.int .u32 (T m)) := fun m hm => by rw [hC]; exact tab_at m hm
  have htab : ∀ w : World, Calls Tryd.prog 39 #[] w fun e w' => e = .returned (.agg C) ∧ Below w.heap.size w w' := fun w => by rw [hC]; exact table_any w
  have hi : (Tryd.prog.info? 61).map (·.size) = some C.size := by rw [hC16]; kernel_rfl
  have hn : n ≤ 9223372036854775807 := Nat.le_trans hr.le hr.small
  have HR := Lib.hid hr
  have HB := Lib.hid hbs
  have HT := Lib.hid htab
  have HI := Lib.hid hi
  have H1 := Lib.hid hC1
  have HCT := Lib.hid hCT
  have H16 := Lib.hid hC16
  clear hr hbs htab hi hC1 hCT hC16 hC
  have es : IntKind.u32.signed = false := rfl
  have em : IntKind.u32.max = 4294967295 := by decide
  have en : bits .xor .u32 IntKind.u32.max (N s) = N (~~~ s) := by rw [em, N_not]
  have ew : ∀ y, bits .xor .u32 IntKind.u32.max (N y) = N (~~~ y) := fun y => by rw [em, N_not]
  have EW := Lib.hid ew
  clear em ew
  go_enter Tryd.func33, Tryd.ntmps33
  go_wp2_with fail
  refine (HT.out _).mono ?_
  rintro e w1 ⟨rfl, hb1⟩
  go_wp2_with (refine wpList_store_row rfl 61 (.tmp 5) (.tmp 9) rfl w1.heap.size C rfl rfl 61 _ (heap_alloc_new _ _) HI.out (by rw [H16.out]; rfl) H1.out ?_; rw [World.setRow_alloc_new]; obtain ⟨W, hW⟩ : ∃ W, W = w1.alloc (.cells C 61) := ⟨_, rfl⟩; rw [← hW]; have HW := Lib.hid hW; clear hW)
  clear en
  have hbW : Below w.heap.size w W := by rw [HW.out]; exact hb1.alloc hb1.size _
  have hrW := HR.out.below hbW
  have hcT : ∀ m, m < 16 → W.cell? ⟨w1.heap.size, m, none⟩ = some (.int .u32 (T m)) := fun m hm => by rw [HW.out, World.cell?_alloc_at _ _ _ _ rfl]; exact HCT.out m hm
  have HRW := Lib.hid hrW
  have HCW := Lib.hid hcT
  have HBW := Lib.hid hbW
  clear hrW hcT hbW
  go_loop [6, 14] (fun r i => ∃ k : Nat, k ≤ n ∧ i = .int .i64 k ∧ r = .int .u32 (N (raw (~~~ s) (l.take k)))) (fun _ i => n - (intOf i).toNat)
  case atStart => exact ⟨0, Nat.zero_le _, rfl, rfl⟩
  case round =>
    obtain ⟨k, hk, rfl, rfl⟩ := hrel
    obtain ⟨x, hx⟩ : ∃ x, x = raw (~~~ s) (l.take k) := ⟨_, rfl⟩
    rw [← hx]
    have HX := Lib.hid hx
    clear hx
    have hx0 := (N_range x).1
    by_cases hkn : k < n
    · obtain ⟨ad, rfl, hcell⟩ := HRW.out.cell k hkn
      obtain ⟨b, hb⟩ : ∃ b, b = l.getD k 0 := ⟨_, rfl⟩
      have hbr : 0 ≤ b ∧ b < 256 := by
        have hl := HRW.out.len
        rw [hb, List.getD_eq_getElem?_getD, List.getElem?_eq_getElem (by omega)]
        exact HB.out _ (List.getElem_mem _)
      have HS : raw (~~~ s) (l.take (k + 1)) = up x b := by rw [hb, HX.out]; exact raw_snoc _ _ _ (by rw [HRW.out.len]; exact hkn)
      rw [← hb] at hcell
      obtain ⟨h0, h1⟩ := hbr
      have H2 := Lib.hid HS
      clear HS hb
      obtain ⟨x1, hx1⟩ : ∃ y, y = x ^^^ BitVec.ofNat 32 b.toNat := ⟨_, rfl⟩
      obtain ⟨x2, hx2⟩ : ∃ y, y = sts 4 x1 := ⟨_, rfl⟩
      obtain ⟨x3, hx3⟩ : ∃ y, y = sts 4 x2 := ⟨_, rfl⟩
      have e1 : bits .xor .u32 (N x) b = N x1 := by rw [hx1]; exact N_byte x b h0 h1
      obtain ⟨m1, hm1⟩ : ∃ y, y = x1.toNat % 16 := ⟨_, rfl⟩
      obtain ⟨m2, hm2⟩ : ∃ y, y = x2.toNat % 16 := ⟨_, rfl⟩
      have e2 : bits .and .u32 (N x1) 15 = (m1 : Int) := by rw [hm1]; exact N_and15 x1
      have e3 : bits .xor .u32 (N x1 / 16) (T m1) = N x2 := by rw [hm1, hx2]; exact N_nibble x1
      have e4 : bits .and .u32 (N x2) 15 = (m2 : Int) := by rw [hm2]; exact N_and15 x2
      have e5 : bits .xor .u32 (N x2 / 16) (T m2) = N x3 := by rw [hm2, hx3]; exact N_nibble x2
      have l1 : m1 < 16 := by omega
      have l2 : m2 < 16 := by omega
      have c1 := HCW.out m1 l1
      have c2 := HCW.out m2 l2
      have HU : up x b = x3 := by rw [hx3, hx2, hx1]; exact sts_add 4 4 _
      have H3 := Lib.hid HU
      have p1 := (N_range x1).1
      have p2 := (N_range x2).1
      clear HU hx1 hx2 hx3 hm1 hm2
      go_wp2
      go_round
      case rel => exact ⟨k + 1, by omega, by go_num, by rw [H2.out, H3.out]⟩
      case measure => simp [intOf]; omega
    · have ek : l.take k = l := List.take_of_length_le (by rw [HRW.out.len]; omega)
      have ex : x = raw (~~~ s) l := by rw [HX.out, ek]
      have HE := Lib.hid ex
      have en := EW.out x
      clear ek ex
      go_wp2
      go_ret
      exact ⟨by rw [HE.out]; rfl, HBW.out⟩
end Go.Proofs.YtjfpmjbbgmhjgaaDoor.Crc
