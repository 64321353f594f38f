/- Clone; IndexFunc. -/
import Derived.Test.YtclfbjbbdfejkaaOE
import Derived.WalkLawsBesides
namespace Go.Proofs.Ytclfbjbbdfejkaa.Ord
open Go.RowKit

def ClonePost (w : World) (n : Nat) (L : List Item) (e : Ending) (w' : World) : Prop := ∃ v, e = .returned v ∧ OwnI w' w.heap.size v n L ∧ Below w.heap.size w w'
/-- 'stays', as a value. -/
abbrev fstays : Value := .func (Fn.func 28) #[] #[]
set_option maxHeartbeats 4000000 in
theorem index_any (A : Option Addr) (n c : Nat) (L : List Item) (w : World) (hE : Its w A n c L) :
    Calls Try.prog 36 #[.slice A n c, fstays] w fun e w' => (∃ v : Int, e = .returned (.int .i64 v) ∧ ((v = -1 ∧ ∀ x ∈ L, stays x = false) ∨ ∃ k : Nat, v = k ∧ ∃ h : k < L.length, stays L[k] = true ∧ ∀ x ∈ L.take k, stays x = false)) ∧ Below w.heap.size w w' := by
  have HE := Lib.hid hE
  have HL := Lib.hid hE.len
  have hle := hE.le
  have hsm := hE.small
  clear hE
  go_enter Try.func36, Try.ntmps36
  go_wp2
  go_loopw [8] (fun i wr => ∃ k : Nat, k ≤ n ∧ i = .int .i64 k ∧ (∀ x ∈ L.take k, stays x = false) ∧ Below w.heap.size w wr) (fun i _ => n - (intOf i).toNat)
  case atStart => exact ⟨0, Nat.zero_le _, rfl, fun x hx => absurd hx (by simp), Below.refl _ _⟩
  case round =>
    obtain ⟨k, hk, rfl, hall, hb⟩ := hrel
    have ALL := Lib.hid hall
    have BB := Lib.hid hb
    clear hall
    by_cases hlt : k < n
    · have hkn : (k : Int) < n := by omega
      have hkL : k < L.length := by rw [HL.out]; exact hlt
      obtain ⟨ad, hAd⟩ : ∃ ad, A = some ad := by
        cases A with
        | none => have := HE.out.nil rfl; omega
        | some ad => exact ⟨ad, rfl⟩
      obtain ⟨b, o, rfl, hcells⟩ := (HE.out.below hb).spot ad hAd (by omega)
      subst hAd
      obtain ⟨x, hx⟩ : ∃ x, x = L[k] := ⟨_, rfl⟩
      have hat := hcells k hkL
      rw [← hx] at hat
      have HAT := Lib.hid hat
      have HX := Lib.hid hx
      have HII := Lib.hid (item_info x)
      clear hcells hat hb hx
      go_wp2_with (refine wpList_load_mid rfl 24 (.tmp 14) rfl b (o + k * 5) rfl x.cells _ HAT.out.range Try.underlying24 rfl HII.out ?_)
      refine (stays_any x wr).mono ?_
      rintro r W2 ⟨rfl, hb2⟩
      have B2 := Lib.hid (below_trans BB.out hb2 BB.out.size)
      obtain ⟨q, hq⟩ : ∃ q, q = stays x := ⟨_, rfl⟩
      have HQ := Lib.hid hq
      rw [← hq]
      clear hb2 hq
      cases q with
      | true =>
        go_wp2
        go_ret
        exact ⟨⟨_, rfl, .inr ⟨k, rfl, hkL, by rw [← HX.out]; exact HQ.out.symm, ALL.out⟩⟩, B2.out⟩
      | false =>
        go_wp2
        go_roundw
        case rel =>
          refine ⟨k + 1, by omega, by go_num, fun y hy => ?_, B2.out⟩
          rw [List.take_succ_eq_append_getElem hkL, ← HX.out] at hy
          rcases List.mem_append.1 hy with h1 | h1
          · exact ALL.out y h1
          · obtain rfl := List.mem_singleton.1 h1
            exact HQ.out.symm
        case measure => simp [intOf]; omega
    · have hkn : ¬ (k : Int) < n := by omega
      have htk : L.take k = L := List.take_of_length_le (by rw [HL.out]; omega)
      rw [htk] at ALL
      clear htk hb
      go_wp2
      go_ret
      exact ⟨⟨_, rfl, .inl ⟨rfl, ALL.out⟩⟩, BB.out⟩
set_option maxHeartbeats 4000000 in
theorem clone_any (A : Option Addr) (n c : Nat) (L : List Item) (w : World) (hE : Its w A n c L) (hn : n ≤ 100000) :
    Calls Try.prog 30 #[.slice A n c] w (ClonePost w n L) := by
  have HE := Lib.hid hE
  have hle := hE.le
  have hsm := hE.small
  cases A with
  | none =>
    have h0 := hE.nil rfl
    have h1 := hE.len
    obtain rfl : n = 0 := by omega
    obtain rfl := List.eq_nil_of_length_eq_zero h1
    subst h0
    clear hE
    have HNIL := fun w : World => Lib.run_eql_slice_nil (P := Try.prog) w 22 24 none 0 0 0 0 Try.underlying22
    go_enter Try.func30, Try.ntmps30
    go_wp2
    go_ret
    exact ⟨_, rfl, World.ownsRow_nil _ _ _ _, Below.refl _ _⟩
  | some ad =>
    clear hE
    have HNIL := fun w : World => Lib.run_eql_slice_nil (P := Try.prog) w 22 24 (some ad) n c 0 0 Try.underlying22
    go_enter Try.func30, Try.ntmps30
    go_wp2_with (at_builtin; refine append_src rfl (.tmp 5) (.tmp 6) 22 24 zeroE 5 40 rfl Try.underlying22 infoE rfl (by decide) w.heap.size _ 0 _ rfl (own_empty _ _ _ (Nat.le_refl _)) (some ad) n c (L.flatMap Item.cells) rfl ((HE.out.below ((Below.refl _ _).alloc (Nat.le_refl _) _)).src) (by unfold maxLen; omega) (by omega) (by simp) ?_; intro v' w5 hown hg; have H5 := Lib.hid hown; have G5 := Lib.hid hg; clear hown hg)
    go_ret
    refine ⟨_, rfl, ?_, below_grown ((Below.refl _ _).alloc (Nat.le_refl _) _) G5.out (by simp) (fun k hk => by cases hk; exact Nat.le_refl _)⟩
    have := H5.out
    rw [Nat.zero_add, List.nil_append] at this
    exact this
end Go.Proofs.Ytclfbjbbdfejkaa.Ord
