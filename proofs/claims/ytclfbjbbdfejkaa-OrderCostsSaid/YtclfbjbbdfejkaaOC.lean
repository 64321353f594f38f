/- The merge in place: the halves of two items or more. -/
import Derived.Test.YtclfbjbbdfejkaaOB
import Derived.Deep.CutBlock
namespace Go.Proofs.Ytclfbjbbdfejkaa.Ord
open Go.RowKit

def G40e (g N c n1 h : Nat) (x y : Item) (z : Bool) : Nat → Value → World → Prop
  | 0 => fun v _ => v = fcmp
  | 1 => fun v _ => v = sl g N c
  | 2 => fun v _ => v = .int .i64 n1
  | 3 => fun v _ => v = .int .i64 h
  | 4 => fun v _ => v = .int .i64 (n1 - h : Nat)
  | 5 => fun v _ => v = .pointer (some ⟨g, (n1 - h) * 5, none⟩)
  | 6 => fun v _ => v = .agg y.cells.toArray
  | 7 => fun v _ => v = sl g N c
  | 8 => fun v _ => v = .int .i64 h
  | 9 => fun v _ => v = .pointer (some ⟨g, (h) * 5, none⟩)
  | 10 => fun v _ => v = .agg x.cells.toArray
  | 11 => fun v _ => v = .int .i64 (kc y x)
  | 12 => fun v _ => v = .bool z
  | 13 => fun v _ => v = .bool (!z)
  | _ => fun _ _ => True
theorem G40e_stable (g N c n1 h : Nat) (x y : Item) (z : Bool) : ∀ i v w w', G40e g N c n1 h x y z i v w → Below w.heap.size w w' → G40e g N c n1 h x y z i v w' := by
  intro i v w w' h hb
  match i, h with
  | 0, h => exact h
  | 1, h => exact h
  | 2, h => exact h
  | 3, h => exact h
  | 4, h => exact h
  | 5, h => exact h
  | 6, h => exact h
  | 7, h => exact h
  | 8, h => exact h
  | 9, h => exact h
  | 10, h => exact h
  | 11, h => exact h
  | 12, h => exact h
  | 13, h => exact h
  | _ + 14, _ => exact trivial
/-- The merge's law, at lesser stretches. -/
def Merges (base g N c len : Nat) : Prop := ∀ (p m b : Nat) (M : List Item) (w : World), p < m → m < b → b - p < len → b ≤ N → OwnI w base (sl g N c) N M → Srt p m M → Srt m b M →
  Calls Try.prog 40 #[sl g N c, .int .i64 p, .int .i64 m, .int .i64 b, fcmp] w (Sorts w base g N c p b M)
set_option maxRecDepth 100000 in
set_option maxHeartbeats 40000000 in
theorem mergeC_any (base g N c p m b : Nat) (L : List Item) (w : World) (hO : OwnI w base (sl g N c) N L) (hm : p + 1 < m) (hmb : m + 1 < b) (hb : b ≤ N) (hN : N ≤ 100000) (hs : Srt p m L) (ht : Srt m b L) (hIH : Merges base g N c (b - p)) :
    Calls Try.prog 40 #[sl g N c, .int .i64 p, .int .i64 m, .int .i64 b, fcmp] w (Sorts w base g N c p b L) := by
  have HO := Lib.hid hO
  have HL := Lib.hid hO.len
  have HS := Lib.hid hs
  have HT := Lib.hid ht
  have IH := Lib.hid hIH
  clear hO hs ht hIH
  have e3 : ((m : Int) - p == 1) = false := by rw [beq_eq_false_iff_ne]; omega
  have e4 : ((b : Int) - m == 1) = false := by rw [beq_eq_false_iff_ne]; omega
  obtain ⟨d, hd⟩ : ∃ d, d = (p + b) / 2 := ⟨_, rfl⟩
  have ed : ((p : Int) + b) / 2 = d := by omega
  obtain ⟨s0, hs0⟩ : ∃ s, s = (if (p + b) / 2 < m then (p + b) / 2 + m - b else p) := ⟨_, rfl⟩
  obtain ⟨r0, hr0⟩ : ∃ s, s = (if (p + b) / 2 < m then (p + b) / 2 else m) := ⟨_, rfl⟩
  have f1 : d < m → s0 = d + m - b ∧ r0 = d := fun h => by rw [← hd] at hs0 hr0; rw [if_pos h] at hs0 hr0; exact ⟨hs0, hr0⟩
  have f2 : ¬ d < m → s0 = p ∧ r0 = m := fun h => by rw [← hd] at hs0 hr0; rw [if_neg h] at hs0 hr0; exact ⟨hs0, hr0⟩
  have bd : p < d ∧ d < b ∧ b ≤ 2 * d - p + 1 ∧ 2 * d ≤ p + b := by omega
  have b3 : p ≤ s0 ∧ s0 ≤ r0 ∧ r0 ≤ d ∧ r0 ≤ m ∧ d + m ≤ b + s0 := by
    by_cases h : d < m
    · have := f1 h; omega
    · have := f2 h; omega
  have HS0 := Lib.hid hs0
  have HR0 := Lib.hid hr0
  have HD := Lib.hid hd
  have HED := Lib.hid ed
  have F1 := Lib.hid f1
  have F2 := Lib.hid f2
  clear hs0 hr0 hd ed f1 f2
  obtain ⟨n1, hn1⟩ : ∃ n, n = d + m - 1 := ⟨_, rfl⟩
  have en : (d : Int) + m - 1 = n1 := by omega
  have HEN := Lib.hid en
  have HN1 := Lib.hid hn1
  clear en hn1
  go_enter Try.func40, Try.ntmps40
  go_upto_if 140 with fail
  rw [HED.out]
  go_cut [20, 21] from 25 (fun s t w2 => s = .int .i64 s0 ∧ t = .int .i64 r0 ∧ w = w2)
  case first =>
    by_cases h : d < m
    · have h2 : (d : Int) < m := by omega
      have h3 := F1.out h
      go_wp2
      go_meet
      case rel => exact ⟨by go_num, by go_num, rfl⟩
    · have h2 : ¬ (d : Int) < m := by omega
      have h3 := F2.out h
      go_wp2
      go_meet
      case rel => exact ⟨by go_num, by go_num, rfl⟩
  case rest =>
    obtain ⟨rfl, rfl, rfl⟩ := hcut
    go_upto_block 8 with fail
    rw [HEN.out]
    go_wp2_with fail
    go_loopw [20, 21] (fun s t wr => ∃ i j : Nat, s = .int .i64 i ∧ t = .int .i64 j ∧ s0 ≤ i ∧ i ≤ j ∧ j ≤ r0 ∧ OwnI wr base (sl g N c) N L ∧ w.grownBy wr (some g) ∧ (i = s0 ∨ ¬ kc (nth L (d + m - i)) (nth L (i - 1)) < 0) ∧ (j = r0 ∨ kc (nth L (d + m - 1 - j)) (nth L j) < 0)) (fun s t _ => (intOf t).toNat - (intOf s).toNat)
    case atStart => exact ⟨s0, r0, rfl, rfl, Nat.le_refl _, b3.2.1, Nat.le_refl _, HO.out, grown_refl _ _, .inl rfl, .inl rfl⟩
    case round =>
      obtain ⟨i, j, rfl, rfl, hi, hij, hj, hown, hgr, hl, hr⟩ := hrel
      have OW := Lib.hid hown
      have GR := Lib.hid hgr
      have LO := Lib.hid hl
      have UP := Lib.hid hr
      clear hown hgr hl hr
      by_cases hlt : i < j
      · have hkn : (i : Int) < j := by omega
        obtain ⟨h, hh⟩ : ∃ h, h = (i + j) / 2 := ⟨_, rfl⟩
        have eh : ((i : Int) + j) / 2 = h := by omega
        have b1 : i ≤ h := by omega
        have b2 : h < j := by omega
        have h1 : h < N := by omega
        have hn1 := HN1.out
        have h2 : n1 - h < N := by omega
        have h3 : h ≤ n1 := by omega
        obtain ⟨x, hx⟩ : ∃ x, x = nth L h := ⟨_, rfl⟩
        obtain ⟨y, hy⟩ : ∃ y, y = nth L (n1 - h) := ⟨_, rfl⟩
        have HX := Lib.hid (show At wr g (h * 5) x.cells by rw [hx, nth_eq (by rw [HL.out]; exact h1)]; exact OW.out.at _)
        have HY := Lib.hid (show At wr g ((n1 - h) * 5) y.cells by rw [hy, nth_eq (by rw [HL.out]; exact h2)]; exact OW.out.at _)
        have EX := Lib.hid hx
        have EY := Lib.hid hy
        obtain ⟨z, hz⟩ : ∃ z, z = decide (kc y x < 0) := ⟨_, rfl⟩
        have HZ := Lib.hid hz.symm
        have EH := Lib.hid eh
        clear hx hy hz hh eh hn1
        go_wp2_with fail
        rw [EH.out]
        refine Flow.wp_region_flow (by kernel_rfl) (G40e g N c n1 h x y z) (by kernel_rfl) (G40e_stable g N c n1 h x y z) ?loc ?fin
        case loc =>
          intro i o ho a w hw hk
          match i, ho with
          | 0, ho =>
            have ho2 := Option.some.inj ho; clear ho; subst ho2
            have r4 : a.tmps.getD 4 undef = fcmp := (hk 4 (Flow.mem_looks (by kernel_rfl))).before (by kernel_rfl)
            rw [if_pos (Flow.wanted_free rfl _)]
            refine Flow.step_value (v := fcmp) ?_ ⟨Below.refl _ _, rfl⟩
            simp [execOp, Act.eval, r4, go_sem]
          | 1, ho =>
            have ho2 := Option.some.inj ho; clear ho; subst ho2
            have r0 : a.tmps.getD 0 undef = sl g N c := (hk 0 (Flow.mem_looks (by kernel_rfl))).before (by kernel_rfl)
            rw [if_pos (Flow.wanted_free rfl _)]
            refine Flow.step_value (v := sl g N c) ?_ ⟨Below.refl _ _, rfl⟩
            simp [execOp, Act.eval, r0, go_sem]
          | 2, ho =>
            have ho2 := Option.some.inj ho; clear ho; subst ho2
            have r22 : a.tmps.getD 22 undef = .int .i64 n1 := (hk 22 (Flow.mem_looks (by kernel_rfl))).before (by kernel_rfl)
            rw [if_pos (Flow.wanted_free rfl _)]
            refine Flow.step_value (v := .int .i64 n1) ?_ ⟨Below.refl _ _, rfl⟩
            simp [execOp, Act.eval, r22, go_sem]
          | 3, ho =>
            have ho2 := Option.some.inj ho; clear ho; subst ho2
            have r23 : a.tmps.getD 23 undef = .int .i64 h := (hk 23 (Flow.mem_looks (by kernel_rfl))).before (by kernel_rfl)
            rw [if_pos (Flow.wanted_free rfl _)]
            refine Flow.step_value (v := .int .i64 h) ?_ ⟨Below.refl _ _, rfl⟩
            simp [execOp, Act.eval, r23, go_sem]
          | 4, ho =>
            have ho2 := Option.some.inj ho; clear ho; subst ho2
            have r160 : a.tmps.getD 160 undef = .int .i64 n1 := (hk 160 (Flow.mem_looks (by kernel_rfl))).by_ 2 (by kernel_rfl) (by decide)
            have r161 : a.tmps.getD 161 undef = .int .i64 h := (hk 161 (Flow.mem_looks (by kernel_rfl))).by_ 3 (by kernel_rfl) (by decide)
            rw [if_pos (Flow.wanted_free rfl _)]
            refine step_sub (.tmp 160) (.tmp 161) rfl n1 h (n1 - h) r160 r161 rfl h3 (by omega) ⟨Below.refl _ _, rfl⟩
          | 5, ho =>
            have ho2 := Option.some.inj ho; clear ho; subst ho2
            have r159 : a.tmps.getD 159 undef = sl g N c := (hk 159 (Flow.mem_looks (by kernel_rfl))).by_ 1 (by kernel_rfl) (by decide)
            have r162 : a.tmps.getD 162 undef = .int .i64 (n1 - h : Nat) := (hk 162 (Flow.mem_looks (by kernel_rfl))).by_ 4 (by kernel_rfl) (by decide)
            rw [if_pos (Flow.wanted_free rfl _)]
            refine step_index (.tmp 159) (.tmp 162) rfl g N c (n1 - h) r159 r162 h2 ⟨Below.refl _ _, rfl⟩
          | 6, ho =>
            have ho2 := Option.some.inj ho; clear ho; subst ho2
            have r163 : a.tmps.getD 163 undef = .pointer (some ⟨g, (n1 - h) * 5, none⟩) := (hk 163 (Flow.mem_looks (by kernel_rfl))).by_ 5 (by kernel_rfl) (by decide)
            rw [if_pos (Flow.wanted_free rfl _)]
            refine step_load_mid 24 (.tmp 163) rfl g (_ * 5) r163 y.cells _ (HY.out.below hw).range Try.underlying24 rfl (item_info y) ⟨Below.refl _ _, rfl⟩
          | 7, ho =>
            have ho2 := Option.some.inj ho; clear ho; subst ho2
            have r0 : a.tmps.getD 0 undef = sl g N c := (hk 0 (Flow.mem_looks (by kernel_rfl))).before (by kernel_rfl)
            rw [if_pos (Flow.wanted_free rfl _)]
            refine Flow.step_value (v := sl g N c) ?_ ⟨Below.refl _ _, rfl⟩
            simp [execOp, Act.eval, r0, go_sem]
          | 8, ho =>
            have ho2 := Option.some.inj ho; clear ho; subst ho2
            have r23 : a.tmps.getD 23 undef = .int .i64 h := (hk 23 (Flow.mem_looks (by kernel_rfl))).before (by kernel_rfl)
            rw [if_pos (Flow.wanted_free rfl _)]
            refine Flow.step_value (v := .int .i64 h) ?_ ⟨Below.refl _ _, rfl⟩
            simp [execOp, Act.eval, r23, go_sem]
          | 9, ho =>
            have ho2 := Option.some.inj ho; clear ho; subst ho2
            have r165 : a.tmps.getD 165 undef = sl g N c := (hk 165 (Flow.mem_looks (by kernel_rfl))).by_ 7 (by kernel_rfl) (by decide)
            have r166 : a.tmps.getD 166 undef = .int .i64 h := (hk 166 (Flow.mem_looks (by kernel_rfl))).by_ 8 (by kernel_rfl) (by decide)
            rw [if_pos (Flow.wanted_free rfl _)]
            refine step_index (.tmp 165) (.tmp 166) rfl g N c (h) r165 r166 h1 ⟨Below.refl _ _, rfl⟩
          | 10, ho =>
            have ho2 := Option.some.inj ho; clear ho; subst ho2
            have r167 : a.tmps.getD 167 undef = .pointer (some ⟨g, (h) * 5, none⟩) := (hk 167 (Flow.mem_looks (by kernel_rfl))).by_ 9 (by kernel_rfl) (by decide)
            rw [if_pos (Flow.wanted_free rfl _)]
            refine step_load_mid 24 (.tmp 167) rfl g (_ * 5) r167 x.cells _ (HX.out.below hw).range Try.underlying24 rfl (item_info x) ⟨Below.refl _ _, rfl⟩
          | 11, ho =>
            have ho2 := Option.some.inj ho; clear ho; subst ho2
            have r158 : a.tmps.getD 158 undef = fcmp := (hk 158 (Flow.mem_looks (by kernel_rfl))).by_ 0 (by kernel_rfl) (by decide)
            have r164 : a.tmps.getD 164 undef = .agg y.cells.toArray := (hk 164 (Flow.mem_looks (by kernel_rfl))).by_ 6 (by kernel_rfl) (by decide)
            have r168 : a.tmps.getD 168 undef = .agg x.cells.toArray := (hk 168 (Flow.mem_looks (by kernel_rfl))).by_ 10 (by kernel_rfl) (by decide)
            rw [if_pos (Flow.wanted_free rfl _)]
            refine Flow.step_call (f := 32) (args := #[.agg y.cells.toArray, .agg x.cells.toArray]) (by simp [execOp, Act.eval, r158, r164, r168, fcmp, go_sem]) ?_
            refine (cmp_any y x w).mono ?_
            rintro r w1 ⟨rfl, hb1⟩
            exact ⟨_, rfl, hb1, rfl⟩
          | 12, ho =>
            have ho2 := Option.some.inj ho; clear ho; subst ho2
            have r169 : a.tmps.getD 169 undef = .int .i64 (kc y x) := (hk 169 (Flow.mem_looks (by kernel_rfl))).by_ 11 (by kernel_rfl) (by decide)
            rw [if_pos (Flow.wanted_free rfl _)]
            refine Flow.step_value (v := .bool z) ?_ ⟨Below.refl _ _, rfl⟩
            simp [execOp, Act.eval, r169, HZ.out, go_sem]
          | 13, ho =>
            have ho2 := Option.some.inj ho; clear ho; subst ho2
            have r170 : a.tmps.getD 170 undef = .bool z := (hk 170 (Flow.mem_looks (by kernel_rfl))).by_ 12 (by kernel_rfl) (by decide)
            rw [if_pos (Flow.wanted_free rfl _)]
            refine Flow.step_value (v := .bool (!z)) ?_ ⟨Below.refl _ _, rfl⟩
            cases z <;> simp [execOp, Act.eval, r170, go_sem]
          | _ + 14, ho => exact absurd ho (by simp)
        case fin =>
          intro a4 W5 hw4 hd4 hs4 hg hold
          have ea := Flow.act_set (a := a4) hold hs4 hd4 [158, 159, 160, 161, 162, 163, 164, 165, 166, 167, 168, 169, 170, 171] (by kernel_rfl)
          have e171 : a4.tmps.getD 171 undef = .bool (!z) := hg 13 _ 171 rfl rfl
          simp only [Flow.sets, e171, List.setIfInBounds_toArray, List.set_cons_succ, List.set_cons_zero] at ea
          rw [ea]
          generalize a4.tmps.getD 158 undef = z158
          generalize a4.tmps.getD 159 undef = z159
          generalize a4.tmps.getD 160 undef = z160
          generalize a4.tmps.getD 161 undef = z161
          generalize a4.tmps.getD 162 undef = z162
          generalize a4.tmps.getD 163 undef = z163
          generalize a4.tmps.getD 164 undef = z164
          generalize a4.tmps.getD 165 undef = z165
          generalize a4.tmps.getD 166 undef = z166
          generalize a4.tmps.getD 167 undef = z167
          generalize a4.tmps.getD 168 undef = z168
          generalize a4.tmps.getD 169 undef = z169
          generalize a4.tmps.getD 170 undef = z170
          clear ea e171
          have OW5 := Lib.hid (OW.out.below hw4)
          have GR5 := Lib.hid (grown_trans GR.out (below_grown' hw4 _))
          clear hd4 hs4 hg hold hw4
          refine (‹∀ (a : Act) (w : World), Code.wp _ _ _ a w → _›) _ _ ?_
          cases z with
          | true =>
            have hzz := of_decide_eq_true HZ.out
            rw [EX.out, EY.out, show n1 - h = d + m - 1 - h by rw [HN1.out]] at hzz
            have UZ := Lib.hid hzz
            clear hzz
            go_wp2
            go_roundw
            case rel => exact ⟨i, h, rfl, rfl, hi, b1, by omega, OW5.out, GR5.out, LO.out.imp (fun q => q) (fun q => by omega), .inr UZ.out⟩
            case measure => simp [intOf]; omega
          | false =>
            have hzz := of_decide_eq_false HZ.out
            rw [EX.out, EY.out, show n1 - h = d + m - (h + 1) by rw [HN1.out]; omega] at hzz
            have LZ := Lib.hid hzz
            clear hzz
            go_wp2
            go_roundw
            case rel => exact ⟨h + 1, j, by go_num, rfl, by omega, b2, hj, OW5.out, GR5.out, .inr (by rw [Nat.add_sub_cancel]; exact LZ.out), UP.out⟩
            case measure => simp [intOf]; omega
      · have hkn : ¬ (i : Int) < j := by omega
        obtain rfl : i = j := by omega
        have PT : Part p m b i L := ⟨by rw [← HS0.out]; exact hi, by rw [← HR0.out]; exact hj, by rw [← HS0.out, ← HD.out]; exact LO.out.imp (fun q => q) (fun q => by omega), by rw [← HR0.out, ← HD.out]; exact UP.out⟩
        obtain ⟨e, he⟩ : ∃ e, e = d + m - i := ⟨_, rfl⟩
        have ee : (d : Int) + m - i = e := by omega
        have bb := PT.bounds (by omega) (by omega)
        rw [← HD.out, ← he] at bb
        have be : d ≤ e := by omega
        obtain ⟨M1, hM1⟩ : ∃ M, M = rot i m e L := ⟨_, rfl⟩
        have law := part_law PT (by omega) (by omega) (by rw [HL.out]; exact hb) HS.out HT.out HD.out he
        rw [← hM1] at law
        obtain ⟨t1, s1, s2, s3, s4, cr⟩ := law
        have T1 := Lib.hid t1
        have S1 := Lib.hid s1
        have S2 := Lib.hid s2
        have S3 := Lib.hid s3
        have S4 := Lib.hid s4
        have CR := Lib.hid cr
        have HM1 := Lib.hid hM1
        have LEN1 := Lib.hid (show M1.length = N by rw [hM1, rot_length]; exact HL.out)
        have HEE := Lib.hid ee
        clear t1 s1 s2 s3 s4 cr PT hM1 he ee
        go_upto_region 39 with fail
        rw [HEE.out]
        by_cases hA : i < m
        · have hA2 : (i : Int) < m := by omega
          by_cases hB : m < e
          · have hB2 : (m : Int) < e := by omega
            go_wp2_with fail
            refine (rotate_any base g N c i m e L fcmp _ OW.out hA hB (by omega) hN).mono ?_
            rintro r W1 ⟨rfl, hown1, hgr1⟩
            rw [← HM1.out] at hown1
            have OW1 := Lib.hid hown1
            have GR1 := Lib.hid (grown_trans GR.out hgr1)
            clear hown1 hgr1
            by_cases hp1 : p < i
            · have hp2 : (p : Int) < i := by omega
              by_cases hi1 : i < d
              · have hi2 : (i : Int) < d := by omega
                go_wp2_with fail
                refine (IH.out p i d M1 _ hp1 hi1 (by omega) (by omega) OW1.out S1.out S2.out).mono ?_
                rintro r W2 ⟨M2, ⟨rfl, hown2, hgr2⟩, htr2, hsr2⟩
                have OW2 := Lib.hid hown2
                have GR2 := Lib.hid (grown_trans GR1.out hgr2)
                have T2 := Lib.hid (And.intro htr2 hsr2)
                clear hown2 hgr2 htr2 hsr2
                have SE := Lib.hid (srt_keep S3.out fun t t1 t2 => T2.out.1.out t (by rw [LEN1.out]; omega) (by omega))
                have SB := Lib.hid (srt_keep S4.out fun t t1 t2 => T2.out.1.out t (by rw [LEN1.out]; omega) (by omega))
                by_cases hd1 : d < e
                · have hd2 : (d : Int) < e := by omega
                  by_cases he1 : e < b
                  · have he2 : (e : Int) < b := by omega
                    go_wp2_with fail
                    refine (IH.out d e b M2 _ hd1 he1 (by omega) hb OW2.out SE.out SB.out).mono ?_
                    rintro r W3 ⟨M3, ⟨rfl, hown3, hgr3⟩, htr3, hsr3⟩
                    have OW3 := Lib.hid hown3
                    have GR3 := Lib.hid (grown_trans GR2.out hgr3)
                    have T3 := Lib.hid (And.intro htr3 hsr3)
                    clear hown3 hgr3 htr3 hsr3
                    have TRA := Lib.hid ((T1.out.trans (T2.out.1.mono (Nat.le_refl _) (by omega))).trans (T3.out.1.mono (by omega) (Nat.le_refl _)))
                    have SRA := Lib.hid (halves (by rw [LEN1.out]; omega) CR.out T2.out.1 T2.out.2 T3.out.1 T3.out.2)
                    go_wp2
                    go_end0
                    exact ⟨M3, ⟨rfl, OW3.out, GR3.out⟩, TRA.out, SRA.out⟩
                  · have he2 : ¬ (e : Int) < b := by omega
                    obtain ⟨M3, hM3⟩ : ∃ M, M = M2 := ⟨_, rfl⟩
                    have OW3 := Lib.hid (hM3 ▸ OW2.out)
                    have GR3 := Lib.hid GR2.out
                    have T3 : Hid (Tr d b M2 M3 ∧ Srt d b M3) := Lib.hid (by rw [hM3]; exact ⟨Tr.refl _ _ _, SE.out.sub (Nat.le_refl _) (by omega)⟩)
                    clear hM3
                    have TRA := Lib.hid ((T1.out.trans (T2.out.1.mono (Nat.le_refl _) (by omega))).trans (T3.out.1.mono (by omega) (Nat.le_refl _)))
                    have SRA := Lib.hid (halves (by rw [LEN1.out]; omega) CR.out T2.out.1 T2.out.2 T3.out.1 T3.out.2)
                    go_wp2
                    go_end0
                    exact ⟨M3, ⟨rfl, OW3.out, GR3.out⟩, TRA.out, SRA.out⟩
                · have hd2 : ¬ (d : Int) < e := by omega
                  obtain ⟨M3, hM3⟩ : ∃ M, M = M2 := ⟨_, rfl⟩
                  have OW3 := Lib.hid (hM3 ▸ OW2.out)
                  have GR3 := Lib.hid GR2.out
                  have T3 : Hid (Tr d b M2 M3 ∧ Srt d b M3) := Lib.hid (by rw [hM3]; exact ⟨Tr.refl _ _ _, SB.out.sub (by omega) (Nat.le_refl _)⟩)
                  clear hM3
                  have TRA := Lib.hid ((T1.out.trans (T2.out.1.mono (Nat.le_refl _) (by omega))).trans (T3.out.1.mono (by omega) (Nat.le_refl _)))
                  have SRA := Lib.hid (halves (by rw [LEN1.out]; omega) CR.out T2.out.1 T2.out.2 T3.out.1 T3.out.2)
                  go_wp2
                  go_end0
                  exact ⟨M3, ⟨rfl, OW3.out, GR3.out⟩, TRA.out, SRA.out⟩
              · have hi2 : ¬ (i : Int) < d := by omega
                obtain ⟨M2, hM2⟩ : ∃ M, M = M1 := ⟨_, rfl⟩
                have OW2 := Lib.hid (hM2 ▸ OW1.out)
                have GR2 := Lib.hid GR1.out
                have T2 : Hid (Tr p d M1 M2 ∧ Srt p d M2) := Lib.hid (by rw [hM2]; exact ⟨Tr.refl _ _ _, S1.out.sub (Nat.le_refl _) (by omega)⟩)
                clear hM2
                have SE := Lib.hid (srt_keep S3.out fun t t1 t2 => T2.out.1.out t (by rw [LEN1.out]; omega) (by omega))
                have SB := Lib.hid (srt_keep S4.out fun t t1 t2 => T2.out.1.out t (by rw [LEN1.out]; omega) (by omega))
                by_cases hd1 : d < e
                · have hd2 : (d : Int) < e := by omega
                  by_cases he1 : e < b
                  · have he2 : (e : Int) < b := by omega
                    go_wp2_with fail
                    refine (IH.out d e b M2 _ hd1 he1 (by omega) hb OW2.out SE.out SB.out).mono ?_
                    rintro r W3 ⟨M3, ⟨rfl, hown3, hgr3⟩, htr3, hsr3⟩
                    have OW3 := Lib.hid hown3
                    have GR3 := Lib.hid (grown_trans GR2.out hgr3)
                    have T3 := Lib.hid (And.intro htr3 hsr3)
                    clear hown3 hgr3 htr3 hsr3
                    have TRA := Lib.hid ((T1.out.trans (T2.out.1.mono (Nat.le_refl _) (by omega))).trans (T3.out.1.mono (by omega) (Nat.le_refl _)))
                    have SRA := Lib.hid (halves (by rw [LEN1.out]; omega) CR.out T2.out.1 T2.out.2 T3.out.1 T3.out.2)
                    go_wp2
                    go_end0
                    exact ⟨M3, ⟨rfl, OW3.out, GR3.out⟩, TRA.out, SRA.out⟩
                  · have he2 : ¬ (e : Int) < b := by omega
                    obtain ⟨M3, hM3⟩ : ∃ M, M = M2 := ⟨_, rfl⟩
                    have OW3 := Lib.hid (hM3 ▸ OW2.out)
                    have GR3 := Lib.hid GR2.out
                    have T3 : Hid (Tr d b M2 M3 ∧ Srt d b M3) := Lib.hid (by rw [hM3]; exact ⟨Tr.refl _ _ _, SE.out.sub (Nat.le_refl _) (by omega)⟩)
                    clear hM3
                    have TRA := Lib.hid ((T1.out.trans (T2.out.1.mono (Nat.le_refl _) (by omega))).trans (T3.out.1.mono (by omega) (Nat.le_refl _)))
                    have SRA := Lib.hid (halves (by rw [LEN1.out]; omega) CR.out T2.out.1 T2.out.2 T3.out.1 T3.out.2)
                    go_wp2
                    go_end0
                    exact ⟨M3, ⟨rfl, OW3.out, GR3.out⟩, TRA.out, SRA.out⟩
                · have hd2 : ¬ (d : Int) < e := by omega
                  obtain ⟨M3, hM3⟩ : ∃ M, M = M2 := ⟨_, rfl⟩
                  have OW3 := Lib.hid (hM3 ▸ OW2.out)
                  have GR3 := Lib.hid GR2.out
                  have T3 : Hid (Tr d b M2 M3 ∧ Srt d b M3) := Lib.hid (by rw [hM3]; exact ⟨Tr.refl _ _ _, SB.out.sub (by omega) (Nat.le_refl _)⟩)
                  clear hM3
                  have TRA := Lib.hid ((T1.out.trans (T2.out.1.mono (Nat.le_refl _) (by omega))).trans (T3.out.1.mono (by omega) (Nat.le_refl _)))
                  have SRA := Lib.hid (halves (by rw [LEN1.out]; omega) CR.out T2.out.1 T2.out.2 T3.out.1 T3.out.2)
                  go_wp2
                  go_end0
                  exact ⟨M3, ⟨rfl, OW3.out, GR3.out⟩, TRA.out, SRA.out⟩
            · have hp2 : ¬ (p : Int) < i := by omega
              obtain ⟨M2, hM2⟩ : ∃ M, M = M1 := ⟨_, rfl⟩
              have OW2 := Lib.hid (hM2 ▸ OW1.out)
              have GR2 := Lib.hid GR1.out
              have T2 : Hid (Tr p d M1 M2 ∧ Srt p d M2) := Lib.hid (by rw [hM2]; exact ⟨Tr.refl _ _ _, S2.out.sub (by omega) (Nat.le_refl _)⟩)
              clear hM2
              have SE := Lib.hid (srt_keep S3.out fun t t1 t2 => T2.out.1.out t (by rw [LEN1.out]; omega) (by omega))
              have SB := Lib.hid (srt_keep S4.out fun t t1 t2 => T2.out.1.out t (by rw [LEN1.out]; omega) (by omega))
              by_cases hd1 : d < e
              · have hd2 : (d : Int) < e := by omega
                by_cases he1 : e < b
                · have he2 : (e : Int) < b := by omega
                  go_wp2_with fail
                  refine (IH.out d e b M2 _ hd1 he1 (by omega) hb OW2.out SE.out SB.out).mono ?_
                  rintro r W3 ⟨M3, ⟨rfl, hown3, hgr3⟩, htr3, hsr3⟩
                  have OW3 := Lib.hid hown3
                  have GR3 := Lib.hid (grown_trans GR2.out hgr3)
                  have T3 := Lib.hid (And.intro htr3 hsr3)
                  clear hown3 hgr3 htr3 hsr3
                  have TRA := Lib.hid ((T1.out.trans (T2.out.1.mono (Nat.le_refl _) (by omega))).trans (T3.out.1.mono (by omega) (Nat.le_refl _)))
                  have SRA := Lib.hid (halves (by rw [LEN1.out]; omega) CR.out T2.out.1 T2.out.2 T3.out.1 T3.out.2)
                  go_wp2
                  go_end0
                  exact ⟨M3, ⟨rfl, OW3.out, GR3.out⟩, TRA.out, SRA.out⟩
                · have he2 : ¬ (e : Int) < b := by omega
                  obtain ⟨M3, hM3⟩ : ∃ M, M = M2 := ⟨_, rfl⟩
                  have OW3 := Lib.hid (hM3 ▸ OW2.out)
                  have GR3 := Lib.hid GR2.out
                  have T3 : Hid (Tr d b M2 M3 ∧ Srt d b M3) := Lib.hid (by rw [hM3]; exact ⟨Tr.refl _ _ _, SE.out.sub (Nat.le_refl _) (by omega)⟩)
                  clear hM3
                  have TRA := Lib.hid ((T1.out.trans (T2.out.1.mono (Nat.le_refl _) (by omega))).trans (T3.out.1.mono (by omega) (Nat.le_refl _)))
                  have SRA := Lib.hid (halves (by rw [LEN1.out]; omega) CR.out T2.out.1 T2.out.2 T3.out.1 T3.out.2)
                  go_wp2
                  go_end0
                  exact ⟨M3, ⟨rfl, OW3.out, GR3.out⟩, TRA.out, SRA.out⟩
              · have hd2 : ¬ (d : Int) < e := by omega
                obtain ⟨M3, hM3⟩ : ∃ M, M = M2 := ⟨_, rfl⟩
                have OW3 := Lib.hid (hM3 ▸ OW2.out)
                have GR3 := Lib.hid GR2.out
                have T3 : Hid (Tr d b M2 M3 ∧ Srt d b M3) := Lib.hid (by rw [hM3]; exact ⟨Tr.refl _ _ _, SB.out.sub (by omega) (Nat.le_refl _)⟩)
                clear hM3
                have TRA := Lib.hid ((T1.out.trans (T2.out.1.mono (Nat.le_refl _) (by omega))).trans (T3.out.1.mono (by omega) (Nat.le_refl _)))
                have SRA := Lib.hid (halves (by rw [LEN1.out]; omega) CR.out T2.out.1 T2.out.2 T3.out.1 T3.out.2)
                go_wp2
                go_end0
                exact ⟨M3, ⟨rfl, OW3.out, GR3.out⟩, TRA.out, SRA.out⟩
          · have hB2 : ¬ (m : Int) < e := by omega
            have OW1 : Hid (OwnI wr base (sl g N c) N M1) := Lib.hid (by rw [HM1.out, show e = m by omega, rot_none]; exact OW.out)
            have GR1 := Lib.hid GR.out
            by_cases hp1 : p < i
            · have hp2 : (p : Int) < i := by omega
              by_cases hi1 : i < d
              · have hi2 : (i : Int) < d := by omega
                go_wp2_with fail
                refine (IH.out p i d M1 _ hp1 hi1 (by omega) (by omega) OW1.out S1.out S2.out).mono ?_
                rintro r W2 ⟨M2, ⟨rfl, hown2, hgr2⟩, htr2, hsr2⟩
                have OW2 := Lib.hid hown2
                have GR2 := Lib.hid (grown_trans GR1.out hgr2)
                have T2 := Lib.hid (And.intro htr2 hsr2)
                clear hown2 hgr2 htr2 hsr2
                have SE := Lib.hid (srt_keep S3.out fun t t1 t2 => T2.out.1.out t (by rw [LEN1.out]; omega) (by omega))
                have SB := Lib.hid (srt_keep S4.out fun t t1 t2 => T2.out.1.out t (by rw [LEN1.out]; omega) (by omega))
                by_cases hd1 : d < e
                · have hd2 : (d : Int) < e := by omega
                  by_cases he1 : e < b
                  · have he2 : (e : Int) < b := by omega
                    go_wp2_with fail
                    refine (IH.out d e b M2 _ hd1 he1 (by omega) hb OW2.out SE.out SB.out).mono ?_
                    rintro r W3 ⟨M3, ⟨rfl, hown3, hgr3⟩, htr3, hsr3⟩
                    have OW3 := Lib.hid hown3
                    have GR3 := Lib.hid (grown_trans GR2.out hgr3)
                    have T3 := Lib.hid (And.intro htr3 hsr3)
                    clear hown3 hgr3 htr3 hsr3
                    have TRA := Lib.hid ((T1.out.trans (T2.out.1.mono (Nat.le_refl _) (by omega))).trans (T3.out.1.mono (by omega) (Nat.le_refl _)))
                    have SRA := Lib.hid (halves (by rw [LEN1.out]; omega) CR.out T2.out.1 T2.out.2 T3.out.1 T3.out.2)
                    go_wp2
                    go_end0
                    exact ⟨M3, ⟨rfl, OW3.out, GR3.out⟩, TRA.out, SRA.out⟩
                  · have he2 : ¬ (e : Int) < b := by omega
                    obtain ⟨M3, hM3⟩ : ∃ M, M = M2 := ⟨_, rfl⟩
                    have OW3 := Lib.hid (hM3 ▸ OW2.out)
                    have GR3 := Lib.hid GR2.out
                    have T3 : Hid (Tr d b M2 M3 ∧ Srt d b M3) := Lib.hid (by rw [hM3]; exact ⟨Tr.refl _ _ _, SE.out.sub (Nat.le_refl _) (by omega)⟩)
                    clear hM3
                    have TRA := Lib.hid ((T1.out.trans (T2.out.1.mono (Nat.le_refl _) (by omega))).trans (T3.out.1.mono (by omega) (Nat.le_refl _)))
                    have SRA := Lib.hid (halves (by rw [LEN1.out]; omega) CR.out T2.out.1 T2.out.2 T3.out.1 T3.out.2)
                    go_wp2
                    go_end0
                    exact ⟨M3, ⟨rfl, OW3.out, GR3.out⟩, TRA.out, SRA.out⟩
                · have hd2 : ¬ (d : Int) < e := by omega
                  obtain ⟨M3, hM3⟩ : ∃ M, M = M2 := ⟨_, rfl⟩
                  have OW3 := Lib.hid (hM3 ▸ OW2.out)
                  have GR3 := Lib.hid GR2.out
                  have T3 : Hid (Tr d b M2 M3 ∧ Srt d b M3) := Lib.hid (by rw [hM3]; exact ⟨Tr.refl _ _ _, SB.out.sub (by omega) (Nat.le_refl _)⟩)
                  clear hM3
                  have TRA := Lib.hid ((T1.out.trans (T2.out.1.mono (Nat.le_refl _) (by omega))).trans (T3.out.1.mono (by omega) (Nat.le_refl _)))
                  have SRA := Lib.hid (halves (by rw [LEN1.out]; omega) CR.out T2.out.1 T2.out.2 T3.out.1 T3.out.2)
                  go_wp2
                  go_end0
                  exact ⟨M3, ⟨rfl, OW3.out, GR3.out⟩, TRA.out, SRA.out⟩
              · have hi2 : ¬ (i : Int) < d := by omega
                obtain ⟨M2, hM2⟩ : ∃ M, M = M1 := ⟨_, rfl⟩
                have OW2 := Lib.hid (hM2 ▸ OW1.out)
                have GR2 := Lib.hid GR1.out
                have T2 : Hid (Tr p d M1 M2 ∧ Srt p d M2) := Lib.hid (by rw [hM2]; exact ⟨Tr.refl _ _ _, S1.out.sub (Nat.le_refl _) (by omega)⟩)
                clear hM2
                have SE := Lib.hid (srt_keep S3.out fun t t1 t2 => T2.out.1.out t (by rw [LEN1.out]; omega) (by omega))
                have SB := Lib.hid (srt_keep S4.out fun t t1 t2 => T2.out.1.out t (by rw [LEN1.out]; omega) (by omega))
                by_cases hd1 : d < e
                · have hd2 : (d : Int) < e := by omega
                  by_cases he1 : e < b
                  · have he2 : (e : Int) < b := by omega
                    go_wp2_with fail
                    refine (IH.out d e b M2 _ hd1 he1 (by omega) hb OW2.out SE.out SB.out).mono ?_
                    rintro r W3 ⟨M3, ⟨rfl, hown3, hgr3⟩, htr3, hsr3⟩
                    have OW3 := Lib.hid hown3
                    have GR3 := Lib.hid (grown_trans GR2.out hgr3)
                    have T3 := Lib.hid (And.intro htr3 hsr3)
                    clear hown3 hgr3 htr3 hsr3
                    have TRA := Lib.hid ((T1.out.trans (T2.out.1.mono (Nat.le_refl _) (by omega))).trans (T3.out.1.mono (by omega) (Nat.le_refl _)))
                    have SRA := Lib.hid (halves (by rw [LEN1.out]; omega) CR.out T2.out.1 T2.out.2 T3.out.1 T3.out.2)
                    go_wp2
                    go_end0
                    exact ⟨M3, ⟨rfl, OW3.out, GR3.out⟩, TRA.out, SRA.out⟩
                  · have he2 : ¬ (e : Int) < b := by omega
                    obtain ⟨M3, hM3⟩ : ∃ M, M = M2 := ⟨_, rfl⟩
                    have OW3 := Lib.hid (hM3 ▸ OW2.out)
                    have GR3 := Lib.hid GR2.out
                    have T3 : Hid (Tr d b M2 M3 ∧ Srt d b M3) := Lib.hid (by rw [hM3]; exact ⟨Tr.refl _ _ _, SE.out.sub (Nat.le_refl _) (by omega)⟩)
                    clear hM3
                    have TRA := Lib.hid ((T1.out.trans (T2.out.1.mono (Nat.le_refl _) (by omega))).trans (T3.out.1.mono (by omega) (Nat.le_refl _)))
                    have SRA := Lib.hid (halves (by rw [LEN1.out]; omega) CR.out T2.out.1 T2.out.2 T3.out.1 T3.out.2)
                    go_wp2
                    go_end0
                    exact ⟨M3, ⟨rfl, OW3.out, GR3.out⟩, TRA.out, SRA.out⟩
                · have hd2 : ¬ (d : Int) < e := by omega
                  obtain ⟨M3, hM3⟩ : ∃ M, M = M2 := ⟨_, rfl⟩
                  have OW3 := Lib.hid (hM3 ▸ OW2.out)
                  have GR3 := Lib.hid GR2.out
                  have T3 : Hid (Tr d b M2 M3 ∧ Srt d b M3) := Lib.hid (by rw [hM3]; exact ⟨Tr.refl _ _ _, SB.out.sub (by omega) (Nat.le_refl _)⟩)
                  clear hM3
                  have TRA := Lib.hid ((T1.out.trans (T2.out.1.mono (Nat.le_refl _) (by omega))).trans (T3.out.1.mono (by omega) (Nat.le_refl _)))
                  have SRA := Lib.hid (halves (by rw [LEN1.out]; omega) CR.out T2.out.1 T2.out.2 T3.out.1 T3.out.2)
                  go_wp2
                  go_end0
                  exact ⟨M3, ⟨rfl, OW3.out, GR3.out⟩, TRA.out, SRA.out⟩
            · have hp2 : ¬ (p : Int) < i := by omega
              obtain ⟨M2, hM2⟩ : ∃ M, M = M1 := ⟨_, rfl⟩
              have OW2 := Lib.hid (hM2 ▸ OW1.out)
              have GR2 := Lib.hid GR1.out
              have T2 : Hid (Tr p d M1 M2 ∧ Srt p d M2) := Lib.hid (by rw [hM2]; exact ⟨Tr.refl _ _ _, S2.out.sub (by omega) (Nat.le_refl _)⟩)
              clear hM2
              have SE := Lib.hid (srt_keep S3.out fun t t1 t2 => T2.out.1.out t (by rw [LEN1.out]; omega) (by omega))
              have SB := Lib.hid (srt_keep S4.out fun t t1 t2 => T2.out.1.out t (by rw [LEN1.out]; omega) (by omega))
              by_cases hd1 : d < e
              · have hd2 : (d : Int) < e := by omega
                by_cases he1 : e < b
                · have he2 : (e : Int) < b := by omega
                  go_wp2_with fail
                  refine (IH.out d e b M2 _ hd1 he1 (by omega) hb OW2.out SE.out SB.out).mono ?_
                  rintro r W3 ⟨M3, ⟨rfl, hown3, hgr3⟩, htr3, hsr3⟩
                  have OW3 := Lib.hid hown3
                  have GR3 := Lib.hid (grown_trans GR2.out hgr3)
                  have T3 := Lib.hid (And.intro htr3 hsr3)
                  clear hown3 hgr3 htr3 hsr3
                  have TRA := Lib.hid ((T1.out.trans (T2.out.1.mono (Nat.le_refl _) (by omega))).trans (T3.out.1.mono (by omega) (Nat.le_refl _)))
                  have SRA := Lib.hid (halves (by rw [LEN1.out]; omega) CR.out T2.out.1 T2.out.2 T3.out.1 T3.out.2)
                  go_wp2
                  go_end0
                  exact ⟨M3, ⟨rfl, OW3.out, GR3.out⟩, TRA.out, SRA.out⟩
                · have he2 : ¬ (e : Int) < b := by omega
                  obtain ⟨M3, hM3⟩ : ∃ M, M = M2 := ⟨_, rfl⟩
                  have OW3 := Lib.hid (hM3 ▸ OW2.out)
                  have GR3 := Lib.hid GR2.out
                  have T3 : Hid (Tr d b M2 M3 ∧ Srt d b M3) := Lib.hid (by rw [hM3]; exact ⟨Tr.refl _ _ _, SE.out.sub (Nat.le_refl _) (by omega)⟩)
                  clear hM3
                  have TRA := Lib.hid ((T1.out.trans (T2.out.1.mono (Nat.le_refl _) (by omega))).trans (T3.out.1.mono (by omega) (Nat.le_refl _)))
                  have SRA := Lib.hid (halves (by rw [LEN1.out]; omega) CR.out T2.out.1 T2.out.2 T3.out.1 T3.out.2)
                  go_wp2
                  go_end0
                  exact ⟨M3, ⟨rfl, OW3.out, GR3.out⟩, TRA.out, SRA.out⟩
              · have hd2 : ¬ (d : Int) < e := by omega
                obtain ⟨M3, hM3⟩ : ∃ M, M = M2 := ⟨_, rfl⟩
                have OW3 := Lib.hid (hM3 ▸ OW2.out)
                have GR3 := Lib.hid GR2.out
                have T3 : Hid (Tr d b M2 M3 ∧ Srt d b M3) := Lib.hid (by rw [hM3]; exact ⟨Tr.refl _ _ _, SB.out.sub (by omega) (Nat.le_refl _)⟩)
                clear hM3
                have TRA := Lib.hid ((T1.out.trans (T2.out.1.mono (Nat.le_refl _) (by omega))).trans (T3.out.1.mono (by omega) (Nat.le_refl _)))
                have SRA := Lib.hid (halves (by rw [LEN1.out]; omega) CR.out T2.out.1 T2.out.2 T3.out.1 T3.out.2)
                go_wp2
                go_end0
                exact ⟨M3, ⟨rfl, OW3.out, GR3.out⟩, TRA.out, SRA.out⟩
        · have hA2 : ¬ (i : Int) < m := by omega
          have OW1 : Hid (OwnI wr base (sl g N c) N M1) := Lib.hid (by rw [HM1.out, show i = m by omega, rot_none']; exact OW.out)
          have GR1 := Lib.hid GR.out
          by_cases hp1 : p < i
          · have hp2 : (p : Int) < i := by omega
            by_cases hi1 : i < d
            · have hi2 : (i : Int) < d := by omega
              go_wp2_with fail
              refine (IH.out p i d M1 _ hp1 hi1 (by omega) (by omega) OW1.out S1.out S2.out).mono ?_
              rintro r W2 ⟨M2, ⟨rfl, hown2, hgr2⟩, htr2, hsr2⟩
              have OW2 := Lib.hid hown2
              have GR2 := Lib.hid (grown_trans GR1.out hgr2)
              have T2 := Lib.hid (And.intro htr2 hsr2)
              clear hown2 hgr2 htr2 hsr2
              have SE := Lib.hid (srt_keep S3.out fun t t1 t2 => T2.out.1.out t (by rw [LEN1.out]; omega) (by omega))
              have SB := Lib.hid (srt_keep S4.out fun t t1 t2 => T2.out.1.out t (by rw [LEN1.out]; omega) (by omega))
              by_cases hd1 : d < e
              · have hd2 : (d : Int) < e := by omega
                by_cases he1 : e < b
                · have he2 : (e : Int) < b := by omega
                  go_wp2_with fail
                  refine (IH.out d e b M2 _ hd1 he1 (by omega) hb OW2.out SE.out SB.out).mono ?_
                  rintro r W3 ⟨M3, ⟨rfl, hown3, hgr3⟩, htr3, hsr3⟩
                  have OW3 := Lib.hid hown3
                  have GR3 := Lib.hid (grown_trans GR2.out hgr3)
                  have T3 := Lib.hid (And.intro htr3 hsr3)
                  clear hown3 hgr3 htr3 hsr3
                  have TRA := Lib.hid ((T1.out.trans (T2.out.1.mono (Nat.le_refl _) (by omega))).trans (T3.out.1.mono (by omega) (Nat.le_refl _)))
                  have SRA := Lib.hid (halves (by rw [LEN1.out]; omega) CR.out T2.out.1 T2.out.2 T3.out.1 T3.out.2)
                  go_wp2
                  go_end0
                  exact ⟨M3, ⟨rfl, OW3.out, GR3.out⟩, TRA.out, SRA.out⟩
                · have he2 : ¬ (e : Int) < b := by omega
                  obtain ⟨M3, hM3⟩ : ∃ M, M = M2 := ⟨_, rfl⟩
                  have OW3 := Lib.hid (hM3 ▸ OW2.out)
                  have GR3 := Lib.hid GR2.out
                  have T3 : Hid (Tr d b M2 M3 ∧ Srt d b M3) := Lib.hid (by rw [hM3]; exact ⟨Tr.refl _ _ _, SE.out.sub (Nat.le_refl _) (by omega)⟩)
                  clear hM3
                  have TRA := Lib.hid ((T1.out.trans (T2.out.1.mono (Nat.le_refl _) (by omega))).trans (T3.out.1.mono (by omega) (Nat.le_refl _)))
                  have SRA := Lib.hid (halves (by rw [LEN1.out]; omega) CR.out T2.out.1 T2.out.2 T3.out.1 T3.out.2)
                  go_wp2
                  go_end0
                  exact ⟨M3, ⟨rfl, OW3.out, GR3.out⟩, TRA.out, SRA.out⟩
              · have hd2 : ¬ (d : Int) < e := by omega
                obtain ⟨M3, hM3⟩ : ∃ M, M = M2 := ⟨_, rfl⟩
                have OW3 := Lib.hid (hM3 ▸ OW2.out)
                have GR3 := Lib.hid GR2.out
                have T3 : Hid (Tr d b M2 M3 ∧ Srt d b M3) := Lib.hid (by rw [hM3]; exact ⟨Tr.refl _ _ _, SB.out.sub (by omega) (Nat.le_refl _)⟩)
                clear hM3
                have TRA := Lib.hid ((T1.out.trans (T2.out.1.mono (Nat.le_refl _) (by omega))).trans (T3.out.1.mono (by omega) (Nat.le_refl _)))
                have SRA := Lib.hid (halves (by rw [LEN1.out]; omega) CR.out T2.out.1 T2.out.2 T3.out.1 T3.out.2)
                go_wp2
                go_end0
                exact ⟨M3, ⟨rfl, OW3.out, GR3.out⟩, TRA.out, SRA.out⟩
            · have hi2 : ¬ (i : Int) < d := by omega
              obtain ⟨M2, hM2⟩ : ∃ M, M = M1 := ⟨_, rfl⟩
              have OW2 := Lib.hid (hM2 ▸ OW1.out)
              have GR2 := Lib.hid GR1.out
              have T2 : Hid (Tr p d M1 M2 ∧ Srt p d M2) := Lib.hid (by rw [hM2]; exact ⟨Tr.refl _ _ _, S1.out.sub (Nat.le_refl _) (by omega)⟩)
              clear hM2
              have SE := Lib.hid (srt_keep S3.out fun t t1 t2 => T2.out.1.out t (by rw [LEN1.out]; omega) (by omega))
              have SB := Lib.hid (srt_keep S4.out fun t t1 t2 => T2.out.1.out t (by rw [LEN1.out]; omega) (by omega))
              by_cases hd1 : d < e
              · have hd2 : (d : Int) < e := by omega
                by_cases he1 : e < b
                · have he2 : (e : Int) < b := by omega
                  go_wp2_with fail
                  refine (IH.out d e b M2 _ hd1 he1 (by omega) hb OW2.out SE.out SB.out).mono ?_
                  rintro r W3 ⟨M3, ⟨rfl, hown3, hgr3⟩, htr3, hsr3⟩
                  have OW3 := Lib.hid hown3
                  have GR3 := Lib.hid (grown_trans GR2.out hgr3)
                  have T3 := Lib.hid (And.intro htr3 hsr3)
                  clear hown3 hgr3 htr3 hsr3
                  have TRA := Lib.hid ((T1.out.trans (T2.out.1.mono (Nat.le_refl _) (by omega))).trans (T3.out.1.mono (by omega) (Nat.le_refl _)))
                  have SRA := Lib.hid (halves (by rw [LEN1.out]; omega) CR.out T2.out.1 T2.out.2 T3.out.1 T3.out.2)
                  go_wp2
                  go_end0
                  exact ⟨M3, ⟨rfl, OW3.out, GR3.out⟩, TRA.out, SRA.out⟩
                · have he2 : ¬ (e : Int) < b := by omega
                  obtain ⟨M3, hM3⟩ : ∃ M, M = M2 := ⟨_, rfl⟩
                  have OW3 := Lib.hid (hM3 ▸ OW2.out)
                  have GR3 := Lib.hid GR2.out
                  have T3 : Hid (Tr d b M2 M3 ∧ Srt d b M3) := Lib.hid (by rw [hM3]; exact ⟨Tr.refl _ _ _, SE.out.sub (Nat.le_refl _) (by omega)⟩)
                  clear hM3
                  have TRA := Lib.hid ((T1.out.trans (T2.out.1.mono (Nat.le_refl _) (by omega))).trans (T3.out.1.mono (by omega) (Nat.le_refl _)))
                  have SRA := Lib.hid (halves (by rw [LEN1.out]; omega) CR.out T2.out.1 T2.out.2 T3.out.1 T3.out.2)
                  go_wp2
                  go_end0
                  exact ⟨M3, ⟨rfl, OW3.out, GR3.out⟩, TRA.out, SRA.out⟩
              · have hd2 : ¬ (d : Int) < e := by omega
                obtain ⟨M3, hM3⟩ : ∃ M, M = M2 := ⟨_, rfl⟩
                have OW3 := Lib.hid (hM3 ▸ OW2.out)
                have GR3 := Lib.hid GR2.out
                have T3 : Hid (Tr d b M2 M3 ∧ Srt d b M3) := Lib.hid (by rw [hM3]; exact ⟨Tr.refl _ _ _, SB.out.sub (by omega) (Nat.le_refl _)⟩)
                clear hM3
                have TRA := Lib.hid ((T1.out.trans (T2.out.1.mono (Nat.le_refl _) (by omega))).trans (T3.out.1.mono (by omega) (Nat.le_refl _)))
                have SRA := Lib.hid (halves (by rw [LEN1.out]; omega) CR.out T2.out.1 T2.out.2 T3.out.1 T3.out.2)
                go_wp2
                go_end0
                exact ⟨M3, ⟨rfl, OW3.out, GR3.out⟩, TRA.out, SRA.out⟩
          · have hp2 : ¬ (p : Int) < i := by omega
            obtain ⟨M2, hM2⟩ : ∃ M, M = M1 := ⟨_, rfl⟩
            have OW2 := Lib.hid (hM2 ▸ OW1.out)
            have GR2 := Lib.hid GR1.out
            have T2 : Hid (Tr p d M1 M2 ∧ Srt p d M2) := Lib.hid (by rw [hM2]; exact ⟨Tr.refl _ _ _, S2.out.sub (by omega) (Nat.le_refl _)⟩)
            clear hM2
            have SE := Lib.hid (srt_keep S3.out fun t t1 t2 => T2.out.1.out t (by rw [LEN1.out]; omega) (by omega))
            have SB := Lib.hid (srt_keep S4.out fun t t1 t2 => T2.out.1.out t (by rw [LEN1.out]; omega) (by omega))
            by_cases hd1 : d < e
            · have hd2 : (d : Int) < e := by omega
              by_cases he1 : e < b
              · have he2 : (e : Int) < b := by omega
                go_wp2_with fail
                refine (IH.out d e b M2 _ hd1 he1 (by omega) hb OW2.out SE.out SB.out).mono ?_
                rintro r W3 ⟨M3, ⟨rfl, hown3, hgr3⟩, htr3, hsr3⟩
                have OW3 := Lib.hid hown3
                have GR3 := Lib.hid (grown_trans GR2.out hgr3)
                have T3 := Lib.hid (And.intro htr3 hsr3)
                clear hown3 hgr3 htr3 hsr3
                have TRA := Lib.hid ((T1.out.trans (T2.out.1.mono (Nat.le_refl _) (by omega))).trans (T3.out.1.mono (by omega) (Nat.le_refl _)))
                have SRA := Lib.hid (halves (by rw [LEN1.out]; omega) CR.out T2.out.1 T2.out.2 T3.out.1 T3.out.2)
                go_wp2
                go_end0
                exact ⟨M3, ⟨rfl, OW3.out, GR3.out⟩, TRA.out, SRA.out⟩
              · have he2 : ¬ (e : Int) < b := by omega
                obtain ⟨M3, hM3⟩ : ∃ M, M = M2 := ⟨_, rfl⟩
                have OW3 := Lib.hid (hM3 ▸ OW2.out)
                have GR3 := Lib.hid GR2.out
                have T3 : Hid (Tr d b M2 M3 ∧ Srt d b M3) := Lib.hid (by rw [hM3]; exact ⟨Tr.refl _ _ _, SE.out.sub (Nat.le_refl _) (by omega)⟩)
                clear hM3
                have TRA := Lib.hid ((T1.out.trans (T2.out.1.mono (Nat.le_refl _) (by omega))).trans (T3.out.1.mono (by omega) (Nat.le_refl _)))
                have SRA := Lib.hid (halves (by rw [LEN1.out]; omega) CR.out T2.out.1 T2.out.2 T3.out.1 T3.out.2)
                go_wp2
                go_end0
                exact ⟨M3, ⟨rfl, OW3.out, GR3.out⟩, TRA.out, SRA.out⟩
            · have hd2 : ¬ (d : Int) < e := by omega
              obtain ⟨M3, hM3⟩ : ∃ M, M = M2 := ⟨_, rfl⟩
              have OW3 := Lib.hid (hM3 ▸ OW2.out)
              have GR3 := Lib.hid GR2.out
              have T3 : Hid (Tr d b M2 M3 ∧ Srt d b M3) := Lib.hid (by rw [hM3]; exact ⟨Tr.refl _ _ _, SB.out.sub (by omega) (Nat.le_refl _)⟩)
              clear hM3
              have TRA := Lib.hid ((T1.out.trans (T2.out.1.mono (Nat.le_refl _) (by omega))).trans (T3.out.1.mono (by omega) (Nat.le_refl _)))
              have SRA := Lib.hid (halves (by rw [LEN1.out]; omega) CR.out T2.out.1 T2.out.2 T3.out.1 T3.out.2)
              go_wp2
              go_end0
              exact ⟨M3, ⟨rfl, OW3.out, GR3.out⟩, TRA.out, SRA.out⟩
end Go.Proofs.Ytclfbjbbdfejkaa.Ord
