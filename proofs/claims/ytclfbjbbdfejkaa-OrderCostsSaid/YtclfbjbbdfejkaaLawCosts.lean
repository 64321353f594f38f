/- OrderCosts. -/
import Derived.Test.YtclfbjbbdfejkaaOW
namespace Go.Proofs.Ytclfbjbbdfejkaa.Ord
open Go.RowKit

theorem wpList_build1 {ops : Array Oper} {rest : List Oper} {o : Oper} {a : Act} {w : World} {Q : Exit → Act → World → Prop} (hg : o.guard = none) (x : Tmp) (ho : o.op = .buildSlice 22 1 #[(0, .tmp x)]) (e1 : Item)
    (hx : a.eval (.tmp x) = .agg e1.cells.toArray)
    (h : wpList Try.prog ops Q rest (a.put o.dst (.slice (some ⟨w.heap.size, 0, none⟩) 1 1)) (w.alloc (.cells e1.cells.toArray 24))) : wpList Try.prog ops Q (o :: rest) a w := by
  obtain ⟨i0, hi, hz0, hz1, hz2⟩ := info_parts infoE
  refine wpList_buildSlice hg 22 24 1 _ ho _ i0 zeroE Try.underlying22 hi hz0 (by rw [hz1]; decide) (by rw [hz1]; decide) ?_ h
  rw [hz1]
  simp only [List.map_toArray, List.map_cons, List.map_nil, hx]
  exact item_fill e1
theorem its1 (w : World) (x : Item) : Its (w.alloc (.cells x.cells.toArray 24)) (some ⟨w.heap.size, 0, none⟩) 1 1 [x] := by
  have h := its_lit w [x] (by simp) 1 rfl
  simpa using h
theorem cost_one (x : Item) : 0 ≤ costA [x] ∧ costA [x] ≤ 1048576 ∧ (costP [x] = 0 ∨ costP [x] = costA [x]) := by
  have hb := cost_bd [x]
  simp only [List.length_singleton] at hb
  refine ⟨by omega, by omega, ?_⟩
  unfold costP costA
  by_cases hr : right x = true
  · by_cases hp : x.pin = true
    · rw [if_pos ⟨hr, hp⟩, if_pos hr]; exact .inr rfl
    · rw [if_neg (fun e => hp e.2)]; exact .inl rfl
  · rw [if_neg (fun e => hr e.1)]; exact .inl rfl
theorem costA_snoc' (l : List Item) (x : Item) : costA (l ++ [x]) = costA l + costA [x] := by rw [costA_snoc]; simp [costA]
theorem costP_snoc' (l : List Item) (x : Item) : costP (l ++ [x]) = costP l + costP [x] := by rw [costP_snoc]; simp [costP]
set_option maxRecDepth 100000 in
set_option maxHeartbeats 8000000 in
theorem OrderCosts_walk (A : Option Addr) (n c : Nat) (L : List Item) (more : Int) (w : World) (hE : Its w A n c L) (hm0 : (Lit.int .u16 more).wf = true) :
    Calls Try.prog 5 #[.slice A n c, .int .u16 more] w (SayB w true) := by
  have hm : 0 ≤ more ∧ more < 65536 := by simp [Lit.wf, IntKind.min, IntKind.max, IntKind.bits, IntKind.signed] at hm0; omega
  have HE := Lib.hid hE
  have HL := Lib.hid hE.len
  have hle := hE.le
  have hsm := hE.small
  clear hE hm0
  go_enter Try.func5, Try.ntmps5
  go_wp2_with fail
  refine (head_any w).mono ?_
  rintro r W1 ⟨rfl, hb1⟩
  have B1 := Lib.hid hb1
  have HL1 := Lib.hid (HE.out.below hb1)
  clear hb1
  by_cases h3 : 300 < n
  · have hk3 : 300 < (n : Int) := by omega
    go_wp2
    go_ret
    exact ⟨rfl, B1.out⟩
  have hk3 : ¬ 300 < (n : Int) := by omega
  go_wp2_with fail
  go_loopw [6, 7, 8] (fun u v i wr => ∃ k : Nat, k ≤ n ∧ i = .int .i64 k ∧ u = .int .i64 (costA (L.take k)) ∧ v = .int .i64 (costP (L.take k)) ∧ Below W1.heap.size W1 wr) (fun _ _ i _ => n - (intOf i).toNat)
  case atStart => exact ⟨0, Nat.zero_le _, rfl, rfl, rfl, Below.refl _ _⟩
  case round =>
    obtain ⟨k, hk, rfl, rfl, rfl, hb⟩ := hrel
    have BB := Lib.hid hb
    obtain ⟨u, hu⟩ : ∃ u, u = costA (L.take k) := ⟨_, rfl⟩
    obtain ⟨v, hv⟩ : ∃ v, v = costP (L.take k) := ⟨_, rfl⟩
    have hbd := cost_bd (L.take k)
    rw [← hu, ← hv, List.length_take, HL.out] at hbd
    rw [← hu, ← hv]
    have HU := Lib.hid hu
    have HV := Lib.hid hv
    have hu1 : 0 ≤ u ∧ u ≤ 314572800 := by omega
    have hv1 : 0 ≤ v ∧ v ≤ 314572800 := by omega
    clear hbd hu hv
    have BW := Lib.hid (below_trans B1.out hb B1.out.size)
    have HLr := Lib.hid (HL1.out.below hb)
    by_cases hlt : k < n
    · have hkn : (k : Int) < n := by omega
      have hkL : k < L.length := by rw [HL.out]; exact hlt
      obtain ⟨ad, hAd⟩ : ∃ ad, A = some ad := by
        cases A with
        | none => have := HE.out.nil rfl; omega
        | some ad => exact ⟨ad, rfl⟩
      obtain ⟨b, o, rfl, hcells⟩ := HLr.out.spot ad hAd (by omega)
      subst hAd
      obtain ⟨x, hx⟩ : ∃ x, x = L[k] := ⟨_, rfl⟩
      have hat := hcells k hkL
      rw [← hx] at hat
      have HAT := Lib.hid hat
      have HII := Lib.hid (item_info x)
      have hc1 := cost_one x
      obtain ⟨ca, hca⟩ : ∃ z, z = costA [x] := ⟨_, rfl⟩
      obtain ⟨cp, hcp⟩ : ∃ z, z = costP [x] := ⟨_, rfl⟩
      have HC := Lib.hid (cost_any (some ⟨wr.heap.size, 0, none⟩) 1 1 [x] _ (its1 wr x) (by omega))
      unfold CostPost at HC
      rw [← hca, ← hcp] at HC hc1
      have HSA : Hid (costA (L.take (k + 1)) = u + ca) := Lib.hid (by rw [List.take_succ_eq_append_getElem hkL, ← hx, costA_snoc', HU.out, hca])
      have HSP : Hid (costP (L.take (k + 1)) = v + cp) := Lib.hid (by rw [List.take_succ_eq_append_getElem hkL, ← hx, costP_snoc', HV.out, hcp])
      have e1 : Below wr.heap.size wr (wr.alloc (.cells x.cells.toArray 24)) := (Below.refl _ _).alloc (Nat.le_refl _) _
      have B3 := Lib.hid (below_trans BB.out e1 BB.out.size)
      clear hcells hat hx hb hca hcp e1
      go_wp2_with (first | (refine wpList_load_mid rfl 24 (.tmp 29) rfl b (o + k * 5) rfl x.cells _ HAT.out.range Try.underlying24 rfl HII.out ?_) | (refine wpList_build1 rfl 30 rfl x rfl ?_))
      refine HC.out.mono ?_
      rintro r W4 ⟨rfl, hb4⟩
      have B4 := Lib.hid (below_trans B3.out hb4 B3.out.size)
      clear hb4
      have hca0 : ¬ ca < 0 := by omega
      by_cases hz : cp = 0
      · have hd1 : (cp != 0) = false := by rw [hz]; rfl
        have hd2 : decide (cp = 0) = true := decide_eq_true hz
        have HZ := Lib.hid hz
        clear hz
        go_wp2
        go_roundw
        case rel => exact ⟨k + 1, by omega, by go_num, by rw [HSA.out], by rw [HSP.out], B4.out⟩
        case measure => simp [intOf]; omega
      · have hd1 : (cp != 0) = true := by simpa using hz
        have he : cp = ca := by omega
        subst he
        have HZ := Lib.hid hz
        clear hz
        go_wp2
        go_roundw
        case rel => exact ⟨k + 1, by omega, by go_num, by rw [HSA.out], by rw [HSP.out], B4.out⟩
        case measure => simp [intOf]; omega
    · have hkn : ¬ (k : Int) < n := by omega
      have htk : L.take k = L := List.take_of_length_le (by rw [HL.out]; omega)
      rw [htk] at HU HV
      have HC := Lib.hid (cost_any A n c L wr HLr.out (by omega))
      unfold CostPost at HC
      rw [← HU.out, ← HV.out] at HC
      have huv := cost_bd L
      rw [← HU.out, ← HV.out] at huv
      clear htk hb
      go_wp2_with fail
      refine HC.out.mono ?_
      rintro r W4 ⟨rfl, hb4⟩
      have HL4 := Lib.hid (HLr.out.below hb4)
      have B4 := Lib.hid (below_trans BW.out hb4 BW.out.size)
      have HOK : Hid (vicOk L more (u + more) = true) := Lib.hid (by unfold vicOk wth; rw [← HV.out]; simp; omega)
      have HVL : Hid (vicL L more (u + more) = []) := Lib.hid (by unfold vicL; rw [if_pos HOK.out, ← HU.out, goingL_none _ (by omega)])
      have HVI := Lib.hid (victims_any A n c L more (u + more) W4 HL4.out (by omega))
      unfold VicPost at HVI
      rw [HOK.out, HVL.out] at HVI
      obtain ⟨um, hum⟩ : ∃ z, z = u + more := ⟨_, rfl⟩
      have HUM := Lib.hid hum
      rw [← hum] at HVI
      have huv3 : v ≤ u := by omega
      clear hb4 hum huv
      go_wp2_with fail
      rw [← HUM.out]
      refine HVI.out.mono ?_
      rintro r W5 ⟨v1, rfl, ho1, hb5⟩
      obtain ⟨A1, c1, rfl, _, _⟩ := ho1.rd
      have B5 := Lib.hid (below_trans B4.out hb5 B4.out.size)
      clear ho1 hb5
      go_wp2
      go_ret
      exact ⟨rfl, B5.out⟩
end Go.Proofs.Ytclfbjbbdfejkaa.Ord
