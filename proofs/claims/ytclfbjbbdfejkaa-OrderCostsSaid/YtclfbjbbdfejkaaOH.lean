/- What items cost, the document's. -/
import Derived.Test.YtclfbjbbdfejkaaO5
namespace Go.Proofs.Ytclfbjbbdfejkaa.Ord
open Go.RowKit

set_option maxRecDepth 100000 in
set_option maxHeartbeats 4000000 in
theorem refcost_any (A : Option Addr) (n c : Nat) (L : List Item) (w : World) (hE : Its w A n c L) (hn : n ≤ 1000000) :
    Calls Try.prog 12 #[.slice A n c] w (CostPost L w) := by
  have HE := Lib.hid hE
  have HL := Lib.hid hE.len
  have hle := hE.le
  have hsm := hE.small
  clear hE
  go_enter Try.func12, Try.ntmps12
  go_wp2
  go_loopw [4, 5, 6] (fun u v i wr => ∃ k : Nat, k ≤ n ∧ i = .int .i64 k ∧ u = .int .i64 (costA (L.take k)) ∧ v = .int .i64 (costP (L.take k)) ∧ Below w.heap.size w wr) (fun _ _ i _ => n - (intOf i).toNat)
  case atStart => exact ⟨0, Nat.zero_le _, rfl, rfl, rfl, Below.refl _ _⟩
  case round =>
    obtain ⟨k, hk, rfl, rfl, rfl, hb⟩ := hrel
    have BB := Lib.hid hb
    obtain ⟨u, hu⟩ : ∃ u, u = costA (L.take k) := ⟨_, rfl⟩
    obtain ⟨v, hv⟩ : ∃ v, v = costP (L.take k) := ⟨_, rfl⟩
    have hbd := cost_bd (L.take k)
    rw [← hu, ← hv, List.length_take, HL.out] at hbd
    rw [← hu, ← hv]
    have HU := Lib.hid hu
    have HV := Lib.hid hv
    have hu1 : 0 ≤ u ∧ u ≤ 1048576000000 := by omega
    have hv1 : 0 ≤ v ∧ v ≤ 1048576000000 := by omega
    clear hbd hu hv
    by_cases hlt : k < n
    · have hkn : (k : Int) < n := by omega
      have hkL : k < L.length := by rw [HL.out]; exact hlt
      obtain ⟨ad, hAd⟩ : ∃ ad, A = some ad := by
        cases A with
        | none => have := HE.out.nil rfl; omega
        | some ad => exact ⟨ad, rfl⟩
      obtain ⟨b, o, rfl, hcells⟩ := (HE.out.below hb).spot ad hAd (by omega)
      subst hAd
      obtain ⟨x, hx⟩ : ∃ x, x = L[k] := ⟨_, rfl⟩
      have hat := hcells k hkL
      rw [← hx] at hat
      have HAT := Lib.hid hat
      have hsA := costA_snoc (L.take k) x
      have hsP := costP_snoc (L.take k) x
      rw [hx, ← List.take_succ_eq_append_getElem hkL, ← hx, ← HU.out] at hsA
      rw [hx, ← List.take_succ_eq_append_getElem hkL, ← hx, ← HV.out] at hsP
      have HSA := Lib.hid hsA
      have HSP := Lib.hid hsP
      have HII := Lib.hid (item_info x)
      clear hcells hat hsA hsP hx hb
      go_wp2_with (refine wpList_load_mid rfl 24 (.tmp 15) rfl b (o + k * 5) rfl x.cells _ HAT.out.range Try.underlying24 rfl HII.out ?_)
      refine (refright_any x wr).mono ?_
      rintro r W2 ⟨rfl, hb2⟩
      have hat2 := HAT.out.below hb2
      have c3 : W2.cell? ⟨b, o + k * 5 + 3, none⟩ = some (.int .i64 x.cost) := hat2 3 (by rw [Item.cells_length]; decide)
      have c4 : W2.cell? ⟨b, o + k * 5 + 4, none⟩ = some (.bool x.pin) := hat2 4 (by rw [Item.cells_length]; decide)
      have B2 := Lib.hid (below_trans BB.out hb2 BB.out.size)
      obtain ⟨q, hq⟩ : ∃ q, q = right x := ⟨_, rfl⟩
      have hxc : q = true → 0 ≤ x.cost ∧ x.cost ≤ 1048576 := fun h => right_cost (by rw [← hq]; exact h)
      rw [← hq] at HSA HSP ⊢
      obtain ⟨p, hp⟩ : ∃ p, p = x.pin := ⟨_, rfl⟩
      rw [← hp] at HSP c4
      clear hat2 hb2 hq hp
      cases q with
      | false =>
        clear hxc
        go_wp2
        go_roundw
        case rel => exact ⟨k + 1, by omega, by go_num, by rw [HSA.out]; simp, by rw [HSP.out]; simp, B2.out⟩
        case measure => simp [intOf]; omega
      | true =>
        have hxb := hxc rfl
        clear hxc
        cases p with
        | false =>
          go_wp2
          go_roundw
          case rel => exact ⟨k + 1, by omega, by go_num, by rw [HSA.out]; simp, by rw [HSP.out]; simp, B2.out⟩
          case measure => simp [intOf]; omega
        | true =>
          go_wp2
          go_roundw
          case rel => exact ⟨k + 1, by omega, by go_num, by rw [HSA.out]; simp, by rw [HSP.out]; simp, B2.out⟩
          case measure => simp [intOf]; omega
    · have hkn : ¬ (k : Int) < n := by omega
      have htk : L.take k = L := List.take_of_length_le (by rw [HL.out]; omega)
      rw [htk] at HU HV
      clear htk
      go_wp2
      go_ret2
      exact ⟨by rw [HU.out, HV.out]; rfl, BB.out⟩
end Go.Proofs.Ytclfbjbbdfejkaa.Ord
