/- Are entries too much? -/
import Derived.Test.YtbfnjfmnblafaaaQ7
namespace Go.Proofs.Ytbfnjfmnblafaaa.Qry
open Go.RowKit

/-- What is known where entries are not too much. -/
def Few (nl : Nat) (L : List Ent) : Prop := nl ≤ 300 ∧ ∀ e ∈ L, e.sn < 9000
def GreatPost (nl : Nat) (L : List Ent) (w : World) (e : Ending) (w' : World) : Prop := (∃ t, e = .returned (.bool t) ∧ (t = false → Few nl L)) ∧ w = w'
/-- So far. -/
def GreatI (nl : Nat) (L : List Ent) (k : Nat) (n : Int) : Prop := (nl : Int) ≤ n ∧ (n < 9000 → ∀ e ∈ L.take k, (e.sn : Int) ≤ n) ∧ n ≤ 9223372036854775807
theorem great_step {nl : Nat} {L : List Ent} {k : Nat} {x y : Int} (h : GreatI nl L k x) (hxy : x ≤ y) (hk : y < 9000 → ∀ (hk : k < L.length), (L[k].sn : Int) ≤ y) (hy : y ≤ 9223372036854775807) : GreatI nl L (k + 1) y := by
  refine ⟨Int.le_trans h.1 hxy, fun h9 e he => ?_, hy⟩
  rcases Nat.lt_or_ge k L.length with hkl | hkl
  · rw [List.take_succ_eq_append_getElem hkl] at he
    rcases List.mem_append.1 he with h1 | h1
    · exact Int.le_trans (h.2.1 (by omega) e h1) hxy
    · obtain rfl := List.mem_singleton.1 h1
      exact hk h9 hkl
  · rw [List.take_of_length_le (by omega)] at he
    exact Int.le_trans (h.2.1 (by omega) e (by rw [List.take_of_length_le hkl]; exact he)) hxy
set_option maxRecDepth 100000 in
set_option maxHeartbeats 4000000 in
theorem great_any (A : Option Addr) (nl cl : Nat) (L : List Ent) (w : World) (hE : Ents w A nl cl L) :
    Calls Try.prog 10 #[.slice A nl cl] w (GreatPost nl L w) := by
  have HE := Lib.hid hE
  have HL := Lib.hid hE.len
  have hle := hE.le
  have hsm := hE.small
  clear hE
  go_enter Try.func10, Try.ntmps10
  go_wp2
  go_loop [3, 4, 5] (fun n i _ => ∃ k : Nat, ∃ x : Int, k ≤ nl ∧ i = .int .i64 k ∧ n = .int .i64 x ∧ GreatI nl L k x) (fun _ i _ => nl - (intOf i).toNat)
  case atStart => exact ⟨0, nl, Nat.zero_le _, rfl, rfl, Int.le_refl _, fun _ e he => absurd he (by simp), by omega⟩
  case round =>
    obtain ⟨k, x, hk, rfl, rfl, hI⟩ := hrel
    have hx0 : 0 ≤ x := by have := hI.1; omega
    have hx1 := hI.2.2
    have HI := Lib.hid hI
    clear hI
    by_cases hlt : k < nl
    · have hkn : (k : Int) < nl := by omega
      by_cases hx : x < 9000
      · have hxd : decide (x < 9000) = true := decide_eq_true hx
        have hkL : k < L.length := by rw [HL.out]; exact hlt
        obtain ⟨ad, hAd⟩ : ∃ ad, A = some ad := by
          cases A with
          | none => have := HE.out.nil rfl; omega
          | some ad => exact ⟨ad, rfl⟩
        obtain ⟨b, o, rfl, hcells⟩ := HE.out.spot ad hAd (by omega)
        subst hAd
        obtain ⟨e, he⟩ : ∃ e, e = L[k] := ⟨_, rfl⟩
        have hatE := hcells k hkL
        rw [← he] at hatE
        have hcs : w.cell? ⟨b, o + k * 13 + 9, none⟩ = some (.slice e.sA e.sn e.sc) := hatE 9 (by rw [Ent.cells_length]; decide)
        have HRow := Lib.hid (HE.out.rows e (by rw [he]; exact List.getElem_mem hkL))
        have hsn := HRow.out.le
        have hsc := HRow.out.small
        have HEE := Lib.hid he
        clear hcells hatE he
        go_wp2
        go_loop [3, 5] (fun n j => ∃ k2 : Nat, ∃ y : Int, k2 ≤ e.sn ∧ j = .int .i64 k2 ∧ n = .int .i64 y ∧ x ≤ y ∧ (k2 : Int) ≤ y ∧ y ≤ 20000) (fun _ j => e.sn - (intOf j).toNat)
        case atStart => exact ⟨0, x, Nat.zero_le _, rfl, rfl, Int.le_refl _, by omega, by omega⟩
        case round =>
          obtain ⟨k2, y, hk2, rfl, rfl, hy0, hy1, hy2⟩ := hrel
          by_cases hlt2 : k2 < e.sn
          · have hkn2 : (k2 : Int) < e.sn := by omega
            by_cases hy : y < 9000
            · have hyd : decide (y < 9000) = true := decide_eq_true hy
              obtain ⟨ad2, hA2, hc2⟩ := HRow.out.cell k2 (by rw [HRow.out.len]; exact hlt2)
              rw [hA2] at hcs
              obtain ⟨s, hs⟩ : ∃ s, s = e.ss[k2]'(by rw [HRow.out.len]; exact hlt2) := ⟨_, rfl⟩
              rw [← hs] at hc2
              clear hs
              go_wp2
              go_round
              case rel => exact ⟨k2 + 1, _, by omega, by go_num, rfl, by split <;> omega, by split <;> omega, by split <;> omega⟩
              case measure => simp [intOf]; omega
            · have hyd : decide (y < 9000) = false := decide_eq_false hy
              go_wp2
              go_round
              case rel => exact ⟨k + 1, y, by omega, by go_num, rfl, great_step HI.out hy0 (fun h => absurd h (by omega)) (by omega)⟩
              case measure => simp [intOf]; omega
          · have hkn2 : ¬ (k2 : Int) < e.sn := by omega
            go_wp2
            go_round
            case rel => exact ⟨k + 1, y, by omega, by go_num, rfl, great_step HI.out hy0 (fun _ _ => by rw [← HEE.out]; omega) (by omega)⟩
            case measure => simp [intOf]; omega
      · have hxd : decide (x < 9000) = false := decide_eq_false hx
        go_wp2
        go_ret
        exact ⟨⟨_, rfl, fun h => by cases h⟩, rfl⟩
    · have hkn : ¬ (k : Int) < nl := by omega
      by_cases hx : x < 9000
      · have hxd : decide (9000 ≤ x) = false := decide_eq_false (by omega)
        go_wp2
        go_ret
        refine ⟨⟨_, rfl, fun h => ⟨by have := of_decide_eq_false h; omega, fun e he => ?_⟩⟩, rfl⟩
        have h1 := HI.out.2.1 hx e (by rw [List.take_of_length_le (by rw [HL.out]; omega)]; exact he)
        omega
      · have hxd : decide (9000 ≤ x) = true := decide_eq_true (by omega)
        go_wp2
        go_ret
        exact ⟨⟨_, rfl, fun h => by cases h⟩, rfl⟩
end Go.Proofs.Ytbfnjfmnblafaaa.Qry
