/- The plain law of sectors: what is put is got, with its number and place alone; what has turned within 32 bits is none. -/
import Derived.Test.YtjfpmjbbgmhjgaaDoorCell9
import Derived.Test.YtjfpmjbbgmhjgaaDoorMathBurst
namespace Go.Proofs.YtjfpmjbbgmhjgaaDoor.Crc
open Go.RowKit CrcMath

theorem le_inj {x y : BitVec 32} (h : le x = le y) : x = y := by
  have := congrArg num h
  rw [num_le, num_le] at this
  exact BitVec.eq_of_toNat_eq this
theorem raw_le (r x : BitVec 32) : raw r (le x) = sts 32 (r ^^^ x) := by
  rw [raw_feed _ _ (le_bytes _), num_le, show 8 * (le x).length = 32 from rfl, ← sts_feed 32 _ _ (Nat.le_refl _) x.isLt, BitVec.ofNat_toNat, BitVec.setWidth_eq]
theorem xor_left {r x y : BitVec 32} (h : r ^^^ x = r ^^^ y) : x = y := by
  have := congrArg (fun v => r ^^^ v) h
  simpa [← BitVec.xor_assoc] using this
theorem not_inj {x y : BitVec 32} (h : ~~~ x = ~~~ y) : x = y := by
  have := congrArg (fun v => ~~~ v) h
  simpa using this
theorem more_le_inj {s x y : BitVec 32} (h : more s (le x) = more s (le y)) : x = y := by
  unfold more at h
  have h1 := not_inj h
  rw [raw_le, raw_le] at h1
  exact xor_left (sts_inj 32 h1)
theorem more_one_inj {s : BitVec 32} {c d : Int} (hc : 0 ≤ c ∧ c < 256) (hd : 0 ≤ d ∧ d < 256) (h : more s [c] = more s [d]) : c = d := by
  unfold more at h
  have h1 : up (~~~ s) c = up (~~~ s) d := not_inj h
  have h2 := xor_left (sts_inj 8 h1)
  have h3 := congrArg BitVec.toNat h2
  rw [BitVec.toNat_ofNat, BitVec.toNat_ofNat] at h3
  omega
theorem right_parts {q p : Int} (h : right q p = true) : 1 ≤ q ∧ q ≤ 2147483648 ∧ 0 ≤ p ∧ p ≤ 255 := by
  unfold right at h
  simp only [Bool.and_eq_true, decide_eq_true_eq] at h
  exact h
theorem right_mk {q p : Int} (h : 1 ≤ q ∧ q ≤ 2147483648 ∧ 0 ≤ p ∧ p ≤ 255) : right q p = true := by
  unfold right
  simp only [Bool.and_eq_true, decide_eq_true_eq]
  exact h
theorem sector_part {q p : Int} {l : List Int} (h : l.length ≤ 59) : part (sector q p l) = l ∧ rest_ (sector q p l) = List.replicate (59 - l.length) 0 ∧ (sector q p l).take 60 = body l ∧ (sector q p l).drop 60 = le (more 0#32 (hd q p ++ body l)) ∧ (sector q p l).getD 0 0 = (l.length : Int) := by
  have e0 : (sector q p l).getD 0 0 = (l.length : Int) := rfl
  have e1 : (sector q p l).drop 1 = l ++ (List.replicate (59 - l.length) 0 ++ le (more 0#32 (hd q p ++ body l))) := by
    unfold sector body
    simp
  refine ⟨?_, ?_, List.take_left' (body_length h), List.drop_left' (body_length h), e0⟩
  · unfold part
    rw [e0, e1, Int.toNat_natCast]
    exact List.take_left' rfl
  · unfold rest_
    rw [e0, Int.toNat_natCast, ← List.drop_drop, e1, List.drop_left' rfl]
    exact List.take_left' (by simp)
/-- What Get finds in what was put. -/
theorem gets_sector {q p q2 p2 : Int} {l : List Int} (h : l.length ≤ 59) (hb : Bytes l) (hr : right q2 p2 = true) : gets q2 p2 (sector q p l) = decide (more 0#32 (hd q2 p2 ++ body l) = more 0#32 (hd q p ++ body l)) := by
  obtain ⟨e1, e2, e3, e4, e5⟩ := sector_part (q := q) (p := p) h
  rw [gets_eq (sector_length h) (sector_bytes h hb) (by rw [e5]; omega) hr, e2, e3, e4]
  have : some1 (List.replicate (59 - l.length) (0 : Int)) = false := (zeros_eq (by simp)).1 rfl
  rw [this, Bool.not_false, Bool.and_true]
  exact decide_eq_decide.2 ⟨fun h => le_inj h, fun h => by rw [h]⟩
theorem gets_same {q p : Int} {l : List Int} (h : l.length ≤ 59) (hb : Bytes l) (hr : right q p = true) : gets q p (sector q p l) = true := by
  rw [gets_sector h hb hr]; exact decide_eq_true rfl
theorem getv_same {q p : Int} {l : List Int} (h : l.length ≤ 59) (hb : Bytes l) (hr : right q p = true) : getv q p (sector q p l) = l := by
  unfold getv; rw [gets_same h hb hr, if_pos rfl]; exact (sector_part h).1
theorem lo_inj {q q2 : Int} (h1 : 1 ≤ q ∧ q ≤ 2147483648) (h2 : 1 ≤ q2 ∧ q2 ≤ 2147483648) (h : lo q = lo q2) : q = q2 := by
  have := congrArg N h
  rw [N_lo, N_lo] at this
  omega
theorem gets_number {q q2 p : Int} {l : List Int} (h : l.length ≤ 59) (hb : Bytes l) (h1 : right q p = true) (h2 : right q2 p = true) : gets q2 p (sector q p l) = decide (q2 = q) := by
  rw [gets_sector h hb h2]
  refine decide_eq_decide.2 ⟨fun e => ?_, fun e => by rw [e]⟩
  have r1 := right_parts h1
  have r2 := right_parts h2
  rw [more_append, more_append] at e
  have e1 := more_inj _ e
  unfold hd at e1
  rw [more_append, more_append] at e1
  have e2 := more_inj _ e1
  exact lo_inj ⟨r2.1, r2.2.1⟩ ⟨r1.1, r1.2.1⟩ (more_le_inj e2)
theorem gets_place {q p p2 : Int} {l : List Int} (h : l.length ≤ 59) (hb : Bytes l) (h1 : right q p = true) (h2 : right q p2 = true) : gets q p2 (sector q p l) = decide (p2 = p) := by
  rw [gets_sector h hb h2]
  refine decide_eq_decide.2 ⟨fun e => ?_, fun e => by rw [e]⟩
  have r1 := right_parts h1
  have r2 := right_parts h2
  rw [more_append, more_append] at e
  have e1 := more_inj _ e
  unfold hd at e1
  rw [more_append, more_append] at e1
  have := more_one_inj (by omega) (by omega) e1
  omega
theorem put_right {q p : Int} {l : List Int} (h : right q p = true) (hl : l.length ≤ 59) : put q p l = sector q p l := by
  unfold put; rw [if_pos ⟨h, hl⟩]
theorem put_wrong {q p : Int} {l : List Int} (h : right q p = false) : put q p l = [] := by
  unfold put; rw [if_neg]; rw [h]; simp
theorem put_long {q p : Int} {l : List Int} (h : 59 < l.length) : put q p l = [] := by
  unfold put; rw [if_neg]; rintro ⟨_, h2⟩; omega
theorem gets_put_back {q p : Int} {s : List Int} (h : gets q p s = true) : put q p (getv q p s) = s := by
  unfold getv
  rw [h, if_pos rfl]
  unfold gets at h
  exact (of_decide_eq_true h).2.2
/-- A sector, with what stands ahead of it, is sealed. -/
theorem gets_opens {q p : Int} {s : List Int} (h : gets q p s = true) : opens (hd q p ++ s) = true := by
  have h1 := gets_put_back h
  have hg := h
  unfold gets at hg
  have hlen := (of_decide_eq_true hg).1
  obtain ⟨v, hv⟩ : ∃ v, v = getv q p s := ⟨_, rfl⟩
  rw [← hv] at h1
  have hp : put q p v = sector q p v ∧ v.length ≤ 59 := by
    by_cases hc : right q p = true ∧ v.length ≤ 59
    · exact ⟨by unfold put; rw [if_pos hc], hc.2⟩
    · have : put q p v = [] := by unfold put; rw [if_neg hc]
      rw [this] at h1
      rw [← h1] at hlen
      simp at hlen
  rw [hp.1] at h1
  have hs : hd q p ++ s = shut (hd q p ++ body v) := by
    rw [← h1]
    unfold shut sector
    rw [List.append_assoc]
  rw [hs]
  unfold opens
  have hl := shut_length (hd q p ++ body v)
  rw [hl]
  have e : (shut (hd q p ++ body v)).take ((hd q p ++ body v).length + 4 - 4) = hd q p ++ body v := by
    rw [Nat.add_sub_cancel]; unfold shut; exact List.take_left' rfl
  rw [e]
  exact decide_eq_true ⟨by omega, rfl⟩
end Go.Proofs.YtjfpmjbbgmhjgaaDoor.Crc
