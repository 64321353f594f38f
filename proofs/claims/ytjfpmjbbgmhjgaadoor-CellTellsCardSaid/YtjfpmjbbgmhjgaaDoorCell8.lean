/- turntableref08.Put -/
import Derived.Test.YtjfpmjbbgmhjgaaDoorCell7
namespace Go.Proofs.YtjfpmjbbgmhjgaaDoor.Crc
open Go.RowKit CrcMath

def RefPutPost (w : World) (q p : Int) (l : List Int) (e : Ending) (w' : World) : Prop :=
  (∃ v, e = .returned v ∧ Own w' .u8 5 w.heap.size v (put q p l).length (put q p l)) ∧ Below w.heap.size w w'
theorem Own.lit {w : World} {B : Nat} (l : List Int) (hl : l.length ≤ 1000) (hB : B ≤ w.heap.size) : Own (w.alloc (.cells (l.map (Value.int .u8)).toArray 5)) .u8 5 B (.slice (some ⟨w.heap.size, 0, none⟩) l.length l.length) l.length l := by
  refine ⟨by simp, .inr ⟨w.heap.size, l.length, _, rfl, hB, heap_alloc_new _ _, Nat.le_refl _, by unfold maxLen; omega, by simp, ?_⟩⟩
  rw [List.take_of_length_le (by simp)]
theorem own_ne {w w1 : World} {k k' : IntKind} {e e' : TypeId} {b b' : Nat} {v v' : Value} {n n' : Nat} {l l' : List Int} (h : Own w k e b v n l) (h' : Own w1 k' e' b' v' n' l') (hb : w.heap.size ≤ b') : v.ownBlock = none ∨ v.ownBlock ≠ v'.ownBlock := by
  cases hv : v.ownBlock with
  | none => exact .inl rfl
  | some j =>
    refine .inr fun e => ?_
    have h1 := (World.ownsRow.lt h j hv).2
    have h2 := (World.ownsRow.lt h' j e.symm).1
    omega
set_option maxHeartbeats 4000000 in
set_option maxRecDepth 100000 in
theorem refput_any (q p : Int) (A : Option Addr) (n c : Nat) (l : List Int) (w : World) (hr : Rd w .u8 A n c l) (hb : Bytes l) :
    Calls Tryd.prog 12 #[.int .i64 q, .int .i64 p, .slice A n c] w (RefPutPost w q p l) := by
  have hcap := hr.small
  have hle := hr.le
  have R := Lib.hid hr
  have Y := Lib.hid hb
  have L := Lib.hid hr.len
  clear hr hb
  obtain ⟨rb, hrb⟩ : ∃ b, b = right q p := ⟨_, rfl⟩
  have hra := refright_any q p
  rw [← hrb] at hra
  have RA := Lib.hid hra
  have RB := Lib.hid hrb
  clear hra hrb
  cases rb with
  | false =>
    go_enter Tryd.func12, Tryd.ntmps12
    go_wp2_with fail
    refine (RA.out _).mono ?_
    rintro e w1 ⟨rfl, rfl⟩
    go_wp2
    go_ret
    refine ⟨⟨_, rfl, ?_⟩, Below.refl _ _⟩
    have e : put q p l = [] := by unfold put; rw [← RB.out]; simp
    rw [e]
    exact World.ownsRow_nil _ _ _ _
  | true =>
    by_cases h59 : (59 : Int) < n
    · have hdd : decide ((59 : Int) < n) = true := decide_eq_true h59
      go_enter Tryd.func12, Tryd.ntmps12
      go_wp2_with fail
      refine (RA.out _).mono ?_
      rintro e w1 ⟨rfl, rfl⟩
      go_wp2
      go_ret
      refine ⟨⟨_, rfl, ?_⟩, Below.refl _ _⟩
      have e : put q p l = [] := by unfold put; rw [if_neg]; rintro ⟨_, h⟩; rw [L.out] at h; omega
      rw [e]
      exact World.ownsRow_nil _ _ _ _
    · have hdd : decide ((59 : Int) < n) = false := decide_eq_false h59
      have hn : n ≤ 59 := by omega
      have hn8 : IntKind.u8.wrap (n : Int) = (n : Int) := by rw [show IntKind.u8.wrap (n : Int) = (n : Int) % 256 from rfl]; omega
      obtain ⟨x, hx⟩ : ∃ x, x = lo q := ⟨_, rfl⟩
      have hq : IntKind.u32.wrap q = N x := by rw [hx, N_lo]; rfl
      have hq2 : q % 4294967296 = N x := by rw [hx, N_lo]
      have hp8 : IntKind.u8.wrap p = p % 256 := rfl
      have HX := Lib.hid hx
      clear hx
      go_enter Tryd.func12, Tryd.ntmps12
      go_wp2_with fail
      refine (RA.out _).mono ?_
      rintro e w1 ⟨rfl, rfl⟩
      go_wp2_with (first
        | (at_builtin; refine append_rd rfl (.tmp 21) (.tmp 22) rfl w.heap.size _ 1 [(n : Int)] rfl (Own.lit [(n : Int)] (by simp) (Nat.le_refl _)) A n c l rfl (R.out.below ((Below.refl _ _).alloc (Nat.le_refl _) _)) (by omega) (by simp) ?_; intro v1 w1 hown hg; obtain ⟨A1, c1, rfl, hr1, _⟩ := Own.rd hown; have h1l := hr1.le; have h1s := hr1.small; clear hr1; have O1 := Lib.hid hown; have X1 := Lib.hid (below_grown ((Below.refl _ _).alloc (Nat.le_refl _) _) hg (by simp) (Own.lit [(n : Int)] (by simp) (Nat.le_refl _)).ge); clear hown hg)
        | (at_builtin; refine append_zeros rfl (.tmp 24) (.tmp 27) rfl w.heap.size _ _ _ rfl O1.out (59 - n) (by simp [Act.eval]; omega) (by omega) X1.out.size ?_; intro v2 w2 hown hg; have O2 := Lib.hid hown; have X2 := Lib.hid (below_grown X1.out hg X1.out.size O1.out.ge); clear hown hg))
      have hl59 : l.length ≤ 59 := by rw [L.out]; omega
      have ho2 : Own w2 .u8 5 w.heap.size v2 60 (body l) := by
        have h1 := O2.out
        rw [show 1 + n + (59 - n) = 60 from by omega] at h1
        have e : [(n : Int)] ++ l ++ List.replicate (59 - n) 0 = body l := by rw [body, L.out]; rfl
        rw [e] at h1
        exact h1
      clear O2 O1 X1
      obtain ⟨A2, c2, rfl, hr2, _⟩ := ho2.rd
      have O2 := Lib.hid ho2
      have h2s := hr2.small
      have h2l := hr2.le
      clear ho2 hr2
      refine (reffour_any x w2).mono ?_
      rintro e w3 ⟨⟨v3, rfl, ho3⟩, hb3⟩
      have O3 := Lib.hid ho3
      have X3 := Lib.hid (below_trans X2.out hb3 X2.out.size)
      have P3 := Lib.hid (Own.below O2.out hb3)
      have S3 := Lib.hid hb3.size
      clear ho3 hb3
      go_wp2_with (first
        | (at_builtin; refine append_rd rfl (.tmp 31) (.tmp 34) rfl w2.heap.size _ 4 (le x) rfl (O3.out.alloc _) (some ⟨w3.heap.size, 0, none⟩) 1 1 [p % 256] rfl (Rd.one w3 .u8 5 _) (by omega) (by have := S3.out; simp; omega) ?_; intro v4 w4 hown hg; have P4 := Lib.hid (Own.kept (P3.out.alloc _) hg (own_ne O2.out O3.out (Nat.le_refl _))); have O4 := Lib.hid hown; have X4 := Lib.hid (below_grown (X3.out.alloc X3.out.size _) hg (by have := X3.out.size; simp; omega) (fun j hj => Nat.le_trans X2.out.size (O3.out.ge j hj))); have S4 := Lib.hid (Nat.le_trans S3.out (Nat.le_trans (by simp) hg.size)); clear hown hg)
        | (at_builtin; refine append_rd rfl (.tmp 35) (.tmp 36) rfl w2.heap.size _ _ _ rfl O4.out A2 60 c2 (body l) rfl (by obtain ⟨A', c', e, hr, _⟩ := P4.out.rd; cases e; exact hr) (by omega) S4.out ?_; intro v5 w5 hown hg; obtain ⟨A5, c5, rfl, hr5, _⟩ := Own.rd hown; have R5 := Lib.hid hr5; have P5 := Lib.hid (Own.kept P4.out hg (own_ne O2.out O4.out (Nat.le_refl _))); have X5 := Lib.hid (below_grown X4.out hg X4.out.size (fun j hj => Nat.le_trans X2.out.size (O4.out.ge j hj))); clear hown hg hr5))
      have HB := Lib.hid (sum_bytes (x := x) (p := p) (body_bytes hl59 Y.out))
      refine (refof_any A5 (4 + 1 + 60) c5 _ _ R5.out HB.out (by omega)).mono ?_
      rintro e w6 ⟨rfl, rfl⟩
      obtain ⟨s, hs⟩ : ∃ s, s = more 0#32 (le x ++ [p % 256] ++ body l) := ⟨_, rfl⟩
      rw [← hs]
      have HS := Lib.hid hs
      clear hs
      go_wp2_with fail
      refine (reffour_any s w5).mono ?_
      rintro e w7 ⟨⟨v7, rfl, ho7⟩, hb7⟩
      obtain ⟨A7, c7, rfl, hr7, _⟩ := ho7.rd
      have R7 := Lib.hid hr7
      have X7 := Lib.hid (below_trans X5.out hb7 X5.out.size)
      have P7 := Lib.hid (Own.below P5.out hb7)
      clear ho7 hb7 hr7
      go_wp2_with (at_builtin; refine append_rd rfl (.tmp 39) (.tmp 41) rfl w.heap.size _ 60 (body l) rfl P7.out A7 4 c7 (le s) rfl R7.out (by omega) X7.out.size ?_; intro v8 w8 hown hg; have O8 := Lib.hid hown; have X8 := Lib.hid (below_grown X7.out hg X7.out.size P7.out.ge); clear hown hg)
      go_ret
      refine ⟨⟨_, rfl, ?_⟩, X8.out⟩
      have e : put q p l = body l ++ le s := by unfold put; rw [← RB.out, if_pos ⟨rfl, hl59⟩, HS.out, HX.out]; rfl
      rw [e, List.length_append, body_length hl59, le_length]
      exact O8.out
end Go.Proofs.YtjfpmjbbgmhjgaaDoor.Crc
