/- query.Fits -/
import Derived.Test.YtbfnjfmnblafaaaQ2
import Derived.Shelf.Abstract
namespace Go.Proofs.Ytbfnjfmnblafaaa.Qry
open Go.RowKit

set_option maxHeartbeats 2000000 in
theorem fits2_any (be ba : Nat) (e : Ent) (a : Ask) (w : World) (h : Seen w be ba e a) :
    Calls Try.prog 24 #[.pointer (some ⟨be, 0, none⟩), .pointer (some ⟨ba, 0, none⟩)] w fun r w' => r = .returned (.bool (fits2 e a)) ∧ w = w' := by
  have c1 : w.cell? ⟨be, 6, none⟩ = some (.int .i64 e.bfrom) := h.ent 6 (by simp [Ent.cells, Item.cells])
  have c2 : w.cell? ⟨be, 7, none⟩ = some (.int .i64 e.bto) := h.ent 7 (by simp [Ent.cells, Item.cells])
  have c3 : w.cell? ⟨ba, 1, none⟩ = some (.int .i64 a.from_) := h.ask 1 (by simp [Ask.cells])
  have c4 : w.cell? ⟨ba, 2, none⟩ = some (.int .i64 a.to_) := h.ask 2 (by simp [Ask.cells])
  clear h
  have key : ∀ b1 b2, decide (e.bfrom ≤ a.to_) = b1 → decide (a.from_ ≤ e.bto) = b2 → Calls Try.prog 24 #[.pointer (some ⟨be, 0, none⟩), .pointer (some ⟨ba, 0, none⟩)] w fun r w' => r = .returned (.bool (b1 && b2)) ∧ w = w' := by
    intro b1 b2 h1 h2
    cases b1 <;> cases b2
    all_goals
      go_enter Try.func24, Try.ntmps24
      go_wp2
      go_ret
      exact ⟨rfl, rfl⟩
  exact key _ _ rfl rfl
set_option maxHeartbeats 2000000 in
theorem fits3_any (be ba : Nat) (e : Ent) (a : Ask) (w : World) (h : Seen w be ba e a) :
    Calls Try.prog 25 #[.pointer (some ⟨ba, 0, none⟩), .pointer (some ⟨be, 0, none⟩)] w fun r w' => r = .returned (.bool (fits3 e a)) ∧ w = w' := by
  have c1 : w.cell? ⟨be, 1, none⟩ = some (.int .i64 e.it.cls) := h.ent 1 (by simp [Ent.cells, Item.cells])
  have c2 : w.cell? ⟨ba, 3, none⟩ = some (.int .i64 a.cls) := h.ask 3 (by simp [Ask.cells])
  clear h
  have key : ∀ b1 b2, decide (a.cls < 0) = b1 → (e.it.cls == a.cls) = b2 → Calls Try.prog 25 #[.pointer (some ⟨ba, 0, none⟩), .pointer (some ⟨be, 0, none⟩)] w fun r w' => r = .returned (.bool (b1 || b2)) ∧ w = w' := by
    intro b1 b2 h1 h2
    cases b1 <;> cases b2
    all_goals
      go_enter Try.func25, Try.ntmps25
      go_wp2
      go_ret
      exact ⟨rfl, rfl⟩
  exact key _ _ rfl rfl
theorem Rd.lit (w : World) (k : IntKind) (e : TypeId) (l : List Int) (hl : l.length ≤ 9223372036854775807) : Rd (w.alloc (.cells (l.map (Value.int k)).toArray e)) k (some ⟨w.heap.size, 0, none⟩) l.length l.length l :=
  ⟨rfl, Nat.le_refl _, hl, (fun h => by cases h), fun ad e2 _ => by
    cases e2
    refine ⟨_, 0, rfl, fun j hj => ?_⟩
    rw [Nat.zero_add, World.cell?_alloc_at _ _ _ _ rfl, List.getElem?_toArray, List.getElem?_map, List.getElem?_eq_getElem hj, List.getD_eq_getElem?_getD, List.getElem?_eq_getElem hj]
    rfl⟩
set_option maxHeartbeats 2000000 in
theorem fits4_any (be ba : Nat) (e : Ent) (a : Ask) (w : World) (h : Seen w be ba e a) :
    Calls Try.prog 26 #[.pointer (some ⟨be, 0, none⟩), .pointer (some ⟨ba, 0, none⟩)] w fun r w' => r = .returned (.bool (fits4 e a)) ∧ Below w.heap.size w w' := by
  have c1 : w.cell? ⟨be, 2, none⟩ = some (.int .i64 e.it.tick) := h.ent 2 (by simp [Ent.cells, Item.cells])
  have c2 : w.cell? ⟨be, 0, none⟩ = some (.int .i64 e.it.id) := h.ent 0 (by simp [Ent.cells, Item.cells])
  have c3 : w.cell? ⟨ba, 4, none⟩ = some (.int .i64 a.tick) := h.ask 4 (by simp [Ask.cells])
  have c4 : w.cell? ⟨ba, 5, none⟩ = some (.int .i64 a.id) := h.ask 5 (by simp [Ask.cells])
  have l1 : be < w.heap.size := World.block_lt_of_cell? w _ c1
  have l2 : ba < w.heap.size := World.block_lt_of_cell? w _ c3
  clear h
  have hb1 : Below w.heap.size w (w.alloc (.cells #[.int .i64 e.it.tick, .int .i64 e.it.id] 2)) := (Below.refl _ _).alloc (Nat.le_refl _) _
  have d3 := (hb1.cell (p := ⟨ba, 4, none⟩) l2).trans c3
  have d4 := (hb1.cell (p := ⟨ba, 5, none⟩) l2).trans c4
  have R1 := Lib.hid (Rd.lit w .i64 2 [e.it.tick, e.it.id] (by simp))
  go_enter Try.func26, Try.ntmps26
  go_wp2_with fail
  have R2 := Lib.hid (Rd.lit (w.alloc (.cells #[.int .i64 e.it.tick, .int .i64 e.it.id] 2)) .i64 2 [a.tick, a.id] (by simp))
  have hbb : Below w.heap.size w ((w.alloc (.cells #[.int .i64 e.it.tick, .int .i64 e.it.id] 2)).alloc (.cells #[.int .i64 a.tick, .int .i64 a.id] 2)) := hb1.alloc hb1.size _
  refine (compare_any (some ⟨w.heap.size, 0, none⟩) 2 2 [e.it.tick, e.it.id] (some ⟨w.heap.size + 1, 0, none⟩) 2 2 [a.tick, a.id] _ (R1.out.below ((Below.refl _ _).alloc (Nat.le_refl _) _)) (by have := R2.out; simpa using this)).mono ?_
  rintro r w1 ⟨rfl, rfl⟩
  obtain ⟨z, hz⟩ : ∃ z, z = cmpL [e.it.tick, e.it.id] [a.tick, a.id] := ⟨_, rfl⟩
  have HZ := Lib.hid hz
  rw [← hz]
  clear hz
  go_wp2
  go_ret
  exact ⟨by unfold fits4; rw [← HZ.out]; rfl, hbb⟩

/-- A closure that answers b, in every world that comes of w. -/
structure Says (w : World) (v : Value) (f : FuncId) (caps : Array Value) (b : Bool) : Prop where
  val : v = .func (.func f) #[] caps
  ent : ∀ args w, (callFunc f args).run Try.prog w = .ok (.enter f args) w
  run : ∀ w1, Below w.heap.size w w1 → Calls Try.prog f caps w1 fun r w' => r = .returned (.bool b) ∧ Below w1.heap.size w1 w'
/-- 'all's own closure: not what the closure tells. -/
theorem not_any (w : World) (v : Value) (f : FuncId) (caps : Array Value) (b : Bool) (h : Says w v f caps b) (w1 : World) (hb : Below w.heap.size w w1) :
    Calls Try.prog 33 #[v] w1 fun r w' => r = .returned (.bool (!b)) ∧ Below w1.heap.size w1 w' := by
  obtain ⟨rfl, he, hr⟩ := h
  have H := Lib.hid (hr w1 hb)
  clear hr
  have he1 := fun w => he caps w
  clear he
  go_enter Try.func33, Try.ntmps33
  go_wp2_with fail
  refine H.out.mono ?_
  rintro r w2 ⟨rfl, hb2⟩
  go_wp2
  go_ret
  exact ⟨rfl, hb2⟩
/-- Four closures in a row, in block g. -/
structure Four (w : World) (g : Nat) (v0 v1 v2 v3 : Value) : Prop where
  at0 : w.cell? ⟨g, 0, none⟩ = some v0
  at1 : w.cell? ⟨g, 1, none⟩ = some v1
  at2 : w.cell? ⟨g, 2, none⟩ = some v2
  at3 : w.cell? ⟨g, 3, none⟩ = some v3
theorem Four.below {w w1 : World} {g : Nat} {v0 v1 v2 v3 : Value} (h : Four w g v0 v1 v2 v3) (hb : Below w.heap.size w w1) : Four w1 g v0 v1 v2 v3 :=
  ⟨(hb.cell (World.block_lt_of_cell? w _ h.at0)).trans h.at0, (hb.cell (World.block_lt_of_cell? w _ h.at1)).trans h.at1, (hb.cell (World.block_lt_of_cell? w _ h.at2)).trans h.at2, (hb.cell (World.block_lt_of_cell? w _ h.at3)).trans h.at3⟩
def pick4 {α : Type} (x0 x1 x2 x3 : α) : Nat → α
  | 0 => x0
  | 1 => x1
  | 2 => x2
  | _ => x3
def upto4 (b0 b1 b2 b3 : Bool) : Nat → Bool
  | 0 => true
  | 1 => b0
  | 2 => b0 && b1
  | 3 => b0 && (b1 && b2)
  | _ => b0 && (b1 && (b2 && b3))
theorem upto4_succ (b0 b1 b2 b3 : Bool) (k : Nat) (h : k < 4) : upto4 b0 b1 b2 b3 (k + 1) = (upto4 b0 b1 b2 b3 k && pick4 b0 b1 b2 b3 k) := by
  match k, h with
  | 0, _ => simp [upto4, pick4]
  | 1, _ => simp [upto4, pick4]
  | 2, _ => simp [upto4, pick4, Bool.and_assoc]
  | 3, _ => simp [upto4, pick4, Bool.and_assoc]
theorem upto4_no {b0 b1 b2 b3 : Bool} {k : Nat} (h : k < 4) (hk : pick4 b0 b1 b2 b3 k = false) : upto4 b0 b1 b2 b3 4 = false := by
  match k, h with
  | 0, _ => simp only [pick4] at hk; simp [upto4, hk]
  | 1, _ => simp only [pick4] at hk; simp [upto4, hk]
  | 2, _ => simp only [pick4] at hk; simp [upto4, hk]
  | 3, _ => simp only [pick4] at hk; simp [upto4, hk]
set_option maxHeartbeats 4000000 in
theorem indexfn_any (g : Nat) (v : Nat → Value) (f : Nat → FuncId) (caps : Nat → Array Value) (b0 b1 b2 b3 : Bool) (w : World)
    (hc : ∀ k, k < 4 → w.cell? ⟨g, k, none⟩ = some (v k)) (hs : ∀ k, k < 4 → Says w (v k) (f k) (caps k) (pick4 b0 b1 b2 b3 k)) :
    Calls Try.prog 38 #[.slice (some ⟨g, 0, none⟩) 4 4, .func (.func 33) #[] #[]] w fun e w' => IndexPost (!upto4 b0 b1 b2 b3 4) e ∧ Below w.heap.size w w' := by
  have HS := Lib.hid hs
  have HC := Lib.hid hc
  clear hs hc
  go_enter Try.func38, Try.ntmps38
  go_wp2_with fail
  go_loopw [8] (fun i wr => ∃ k : Nat, k ≤ 4 ∧ i = .int .i64 k ∧ upto4 b0 b1 b2 b3 k = true ∧ Below w.heap.size w wr) (fun i _ => 4 - (intOf i).toNat)
  case atStart => exact ⟨0, Nat.zero_le _, rfl, rfl, Below.refl _ _⟩
  case round =>
    obtain ⟨k, hk, rfl, hu, hbel⟩ := hrel
    have U := Lib.hid hu
    have X := Lib.hid hbel
    clear hu hbel
    by_cases hlt : k < 4
    · have hc1 : wr.cell? ⟨g, k, none⟩ = some (v k) := (X.out.cell (World.block_lt_of_cell? w _ (HC.out k hlt))).trans (HC.out k hlt)
      have hn := not_any w (v k) (f k) (caps k) _ (HS.out k hlt) wr X.out
      have hus := upto4_succ b0 b1 b2 b3 k hlt
      rw [U.out, Bool.true_and] at hus
      obtain ⟨t, ht⟩ : ∃ t, t = pick4 b0 b1 b2 b3 k := ⟨_, rfl⟩
      rw [← ht] at hn hus
      obtain ⟨vk, hvk⟩ : ∃ x, x = v k := ⟨_, rfl⟩
      rw [← hvk] at hc1 hn
      have HN := Lib.hid hn
      have HU := Lib.hid hus
      have HT := Lib.hid ht
      clear hn hus ht hvk
      go_wp2_with fail
      refine HN.out.mono ?_
      rintro r w2 ⟨rfl, hb2⟩
      have X2 := Lib.hid (below_trans X.out hb2 X.out.size)
      clear hb2
      cases t with
      | true =>
        go_wp2
        go_roundw
        case rel => exact ⟨k + 1, by omega, by go_num, HU.out, X2.out⟩
        case measure => simp [intOf]; omega
      | false =>
        go_wp2
        go_ret
        exact ⟨⟨k, rfl, by rw [upto4_no hlt HT.out.symm]; exact decide_eq_true (by omega)⟩, X2.out⟩
    · have hkk : k = 4 := by omega
      subst hkk
      go_wp2
      go_ret
      exact ⟨⟨-1, rfl, by rw [U.out]; rfl⟩, X.out⟩
set_option maxHeartbeats 2000000 in
theorem containsfn_any (g : Nat) (v : Nat → Value) (f : Nat → FuncId) (caps : Nat → Array Value) (b0 b1 b2 b3 : Bool) (w : World)
    (hc : ∀ k, k < 4 → w.cell? ⟨g, k, none⟩ = some (v k)) (hs : ∀ k, k < 4 → Says w (v k) (f k) (caps k) (pick4 b0 b1 b2 b3 k)) :
    Calls Try.prog 32 #[.slice (some ⟨g, 0, none⟩) 4 4, .func (.func 33) #[] #[]] w fun e w' => e = .returned (.bool (!upto4 b0 b1 b2 b3 4)) ∧ Below w.heap.size w w' := by
  have H := Lib.hid (indexfn_any g v f caps b0 b1 b2 b3 w hc hs)
  clear hc hs
  go_enter Try.func32, Try.ntmps32
  go_wp2_with fail
  refine H.out.mono ?_
  rintro r w1 ⟨⟨z, rfl, hz⟩, hb⟩
  go_wp2
  go_ret
  exact ⟨rfl, hb⟩
set_option maxHeartbeats 2000000 in
theorem all_any (g : Nat) (v : Nat → Value) (f : Nat → FuncId) (caps : Nat → Array Value) (b0 b1 b2 b3 : Bool) (w : World)
    (hc : ∀ k, k < 4 → w.cell? ⟨g, k, none⟩ = some (v k)) (hs : ∀ k, k < 4 → Says w (v k) (f k) (caps k) (pick4 b0 b1 b2 b3 k)) :
    Calls Try.prog 21 #[.slice (some ⟨g, 0, none⟩) 4 4] w fun e w' => e = .returned (.bool (upto4 b0 b1 b2 b3 4)) ∧ Below w.heap.size w w' := by
  have H := Lib.hid (containsfn_any g v f caps b0 b1 b2 b3 w hc hs)
  clear hc hs
  obtain ⟨t, ht⟩ : ∃ t, t = upto4 b0 b1 b2 b3 4 := ⟨_, rfl⟩
  rw [← ht] at H ⊢
  clear ht
  go_enter Try.func21, Try.ntmps21
  go_wp2_with fail
  refine H.out.mono ?_
  rintro r w1 ⟨rfl, hb⟩
  cases t
  all_goals
    go_wp2
    go_ret
    exact ⟨rfl, hb⟩
theorem at_alloc {w : World} {cs : List Value} (t : TypeId) : At (w.alloc (.cells cs.toArray t)) w.heap.size 0 cs := by
  intro j hj
  rw [Nat.zero_add, World.cell?_alloc_at _ _ _ _ rfl, List.getElem?_toArray, List.getElem?_eq_getElem hj]
set_option maxHeartbeats 4000000 in
theorem fits_any (e : Ent) (a : Ask) (w : World) (h : SRd w e.sA e.sn e.sc e.ss) :
    Calls Try.prog 13 #[.agg e.cells.toArray, .agg a.cells.toArray] w fun r w' => r = .returned (.bool (fits e a)) ∧ Below w.heap.size w w' := by
  obtain ⟨E, hE⟩ : ∃ E, E = e.cells.toArray := ⟨_, rfl⟩
  obtain ⟨A, hA⟩ : ∃ A, A = a.cells.toArray := ⟨_, rfl⟩
  rw [← hE, ← hA]
  have HE := Lib.hid hE
  have HA := Lib.hid hA
  have H := Lib.hid h
  clear hE hA h
  go_enter Try.func13, Try.ntmps13
  go_wp2_with fail
  obtain ⟨W1, hW1⟩ : ∃ W, W = (w.alloc (.cells E 29)).alloc (.cells A 31) := ⟨_, rfl⟩
  rw [← hW1]
  have hs1 : W1.heap.size = w.heap.size + 1 + 1 := by rw [hW1]; simp
  have hB1 : Below w.heap.size w W1 := by rw [hW1]; exact ((Below.refl _ _).alloc (Nat.le_refl _) _).alloc (by simp) _
  have hat1 : At W1 w.heap.size 0 e.cells := by
    have h0 : At (w.alloc (.cells E 29)) w.heap.size 0 e.cells := by rw [HE.out]; exact at_alloc 29
    rw [hW1]
    exact h0.below ((Below.refl _ _).alloc (Nat.le_refl _) _)
  have hat2 : At W1 (w.heap.size + 1) 0 a.cells := by
    have h0 := at_alloc (w := w.alloc (.cells E 29)) (cs := a.cells) 31
    rw [World.size_alloc, ← HA.out, ← hW1] at h0
    exact h0
  have seen1 : Seen W1 w.heap.size (w.heap.size + 1) e a := ⟨hat1, hat2, H.out.below hB1⟩
  rw [← hs1]
  obtain ⟨be, hbe⟩ : ∃ b, b = w.heap.size := ⟨_, rfl⟩
  obtain ⟨ba, hba⟩ : ∃ b, b = w.heap.size + 1 := ⟨_, rfl⟩
  rw [← hba] at seen1 ⊢
  rw [← hbe] at seen1
  have HBE := Lib.hid hbe
  have SE := Lib.hid seen1
  have B1 := Lib.hid hB1
  clear hat1 hat2 seen1 hB1
  obtain ⟨V, hV⟩ : ∃ V : Nat → Value, V = pick4 (.func (.func 22) #[] #[.pointer (some ⟨ba, 0, none⟩), .pointer (some ⟨be, 0, none⟩)]) (.func (.func 24) #[] #[.pointer (some ⟨be, 0, none⟩), .pointer (some ⟨ba, 0, none⟩)]) (.func (.func 25) #[] #[.pointer (some ⟨ba, 0, none⟩), .pointer (some ⟨be, 0, none⟩)]) (.func (.func 26) #[] #[.pointer (some ⟨be, 0, none⟩), .pointer (some ⟨ba, 0, none⟩)]) := ⟨_, rfl⟩
  have hW2 : Below W1.heap.size W1 (W1.alloc (.cells #[.func (.func 22) #[] #[.pointer (some ⟨ba, 0, none⟩), .pointer (some ⟨w.heap.size, 0, none⟩)], .func (.func 24) #[] #[.pointer (some ⟨w.heap.size, 0, none⟩), .pointer (some ⟨ba, 0, none⟩)], .func (.func 25) #[] #[.pointer (some ⟨ba, 0, none⟩), .pointer (some ⟨w.heap.size, 0, none⟩)], .func (.func 26) #[] #[.pointer (some ⟨w.heap.size, 0, none⟩), .pointer (some ⟨ba, 0, none⟩)]] 32)) := (Below.refl _ _).alloc (Nat.le_refl _) _
  refine (all_any W1.heap.size V (pick4 22 24 25 26) (pick4 #[.pointer (some ⟨ba, 0, none⟩), .pointer (some ⟨be, 0, none⟩)] #[.pointer (some ⟨be, 0, none⟩), .pointer (some ⟨ba, 0, none⟩)] #[.pointer (some ⟨ba, 0, none⟩), .pointer (some ⟨be, 0, none⟩)] #[.pointer (some ⟨be, 0, none⟩), .pointer (some ⟨ba, 0, none⟩)]) (fits1 e a) (fits2 e a) (fits3 e a) (fits4 e a) _ ?hc ?hs).mono ?_
  case hc =>
    intro k hk
    rw [hV, hbe]
    match k, hk with
    | 0, _ => simp [pick4]
    | 1, _ => simp [pick4]
    | 2, _ => simp [pick4]
    | 3, _ => simp [pick4]
  case hs =>
    intro k hk
    rw [hV]
    match k, hk with
    | 0, _ => exact ⟨rfl, Go.Proofs.enters_of Try.func22 (by kernel_rfl) rfl, fun w1 hb => (fits1_any be ba e a w1 ((SE.out.below hW2).below hb)).mono (fun r w' h => ⟨h.1, h.2 ▸ Below.refl _ _⟩)⟩
    | 1, _ => exact ⟨rfl, Go.Proofs.enters_of Try.func24 (by kernel_rfl) rfl, fun w1 hb => (fits2_any be ba e a w1 ((SE.out.below hW2).below hb)).mono (fun r w' h => ⟨h.1, h.2 ▸ Below.refl _ _⟩)⟩
    | 2, _ => exact ⟨rfl, Go.Proofs.enters_of Try.func25 (by kernel_rfl) rfl, fun w1 hb => (fits3_any be ba e a w1 ((SE.out.below hW2).below hb)).mono (fun r w' h => ⟨h.1, h.2 ▸ Below.refl _ _⟩)⟩
    | 3, _ => exact ⟨rfl, Go.Proofs.enters_of Try.func26 (by kernel_rfl) rfl, fun w1 hb => fits4_any be ba e a w1 ((SE.out.below hW2).below hb)⟩
  rintro r w2 ⟨rfl, hb2⟩
  have X2 := Lib.hid (below_trans (below_trans B1.out hW2 B1.out.size) hb2 (Nat.le_trans B1.out.size hW2.size))
  obtain ⟨t, ht⟩ : ∃ t, t = upto4 (fits1 e a) (fits2 e a) (fits3 e a) (fits4 e a) 4 := ⟨_, rfl⟩
  have HT : Hid (fits e a = t) := Lib.hid (by rw [ht]; rfl)
  rw [← ht]
  clear hb2 hW2 hV ht hbe hba hs1 hW1
  go_wp2
  go_ret
  exact ⟨by rw [HT.out]; rfl, X2.out⟩
end Go.Proofs.Ytbfnjfmnblafaaa.Qry
