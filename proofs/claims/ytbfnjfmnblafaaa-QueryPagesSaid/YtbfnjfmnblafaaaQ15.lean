/- New, All; entries in order. -/
import Derived.Test.YtbfnjfmnblafaaaQ14
namespace Go.Proofs.Ytbfnjfmnblafaaa.Qry
open Go.RowKit

theorem append_at {w : World} {ops : Array Oper} {rest : List Oper} {o : Oper} {a : Act} {Q : Exit → Act → World → Prop} (hgw : Region.wanted o (yielded ops a.tmps) = true) (s x : Operand) (t e : TypeId) (z : Value) (size bytes : Nat)
    (ho : o.op = .call { callee := .builtin .append, args := #[s, x], argTypes := #[t, t] }) (ht : Try.prog.underlying t = some (.slice e)) (hie : (Try.prog.info? e).map (fun i => (i.zero, i.size, i.bytes)) = some (some z, size, bytes)) (hzs : z.cells.size = size) (hsz : 0 < size)
    (base : Nat) (v : Value) (n : Nat) (xs : List Value) (hs : a.eval s = v) (hown : w.ownsRow base e size v n xs)
    (ad : Addr) (m c : Nat) (news : List Value) (hx : a.eval x = .slice (some ad) m c) (hr : Src w (some ad) m c size news) (hm : n + m ≤ maxLen) (hb : (n + m) * bytes ≤ 140737488355328) (hbase : base ≤ w.heap.size)
    (h : ∀ v' w', w'.ownsRow base e size v' (n + m) (xs ++ news) → w.grownBy w' v.ownBlock → (v'.ownBlock = v.ownBlock ∨ v'.ownBlock = some w.heap.size) → wpList Try.prog ops Q rest (a.put o.dst v') w') : wpList Try.prog ops Q (o :: rest) a w := by
  obtain ⟨i0, hi, hz0, hz1, hz2⟩ := info_parts hie
  refine unguard hgw ?_
  have hgd : ({ o with guard := none } : Oper).guard = none := rfl
  rcases hr with ⟨h0, _⟩ | ⟨ad', h0, hl, hc, h1⟩
  · cases h0
  · cases h0
    refine wpList_append_own_at w hgd s x t ho base e i0 z size bytes ht hi hz0 hz1 hz2 hzs hsz v n _ hs hown ad m c news hx hl hc h1 hm hb hbase ?_
    intro v' w' h1 h2 _ h3
    exact h v' w' h1 h2 h3
theorem wpList_build1 {ops : Array Oper} {rest : List Oper} {o : Oper} {a : Act} {w : World} {Q : Exit → Act → World → Prop} (hg : o.guard = none) (x : Tmp) (ho : o.op = .buildSlice 22 1 #[(0, .tmp x)]) (e : Ent) (hx : a.eval (.tmp x) = .agg e.cells.toArray)
    (h : wpList Try.prog ops Q rest (a.put o.dst (.slice (some ⟨w.heap.size, 0, none⟩) 1 1)) (w.alloc (.cells e.cells.toArray 29))) : wpList Try.prog ops Q (o :: rest) a w := by
  obtain ⟨i0, hi, hz0, hz1, hz2⟩ := info_parts infoE
  refine wpList_buildSlice hg 22 29 1 _ ho e.cells.toArray i0 zeroE Try.underlying22 hi hz0 (by rw [hz1]; decide) (by rw [hz1]; decide) ?_ h
  rw [hz1]
  simp only [List.map_toArray, List.map_cons, List.map_nil, hx]
  exact ent_fill e
theorem new_any (w : World) : Calls Try.prog 28 #[] w fun e w' => e = .returned (.pointer (some ⟨w.heap.size, 0, none⟩)) ∧ w' = w.alloc (.cells #[.slice none 0 0] 63) := by
  go_enter Try.func28, Try.ntmps28
  go_wp2
  go_ret
  exact ⟨rfl, rfl⟩
theorem new_idx (w : World) : Idx (w.alloc (.cells #[.slice none 0 0] 63)) w.heap.size [] :=
  ⟨.slice none 0 0, heap_alloc_new _ _, World.ownsRow_nil _ _ _ _, fun _ h => by cases h⟩
/-- What an entry is, wherever its list lies. -/
def Ent.core (e : Ent) : Ent := e.re none 0
def AllI (w : World) (s1 : Nat) (v : Value) (L2 : List Ent) : Prop := OwnE w s1 v L2.length L2 ∧ ∀ e ∈ L2, ∀ ad, e.sA = some ad → ad.block < w.heap.size ∧ ∀ j, v.ownBlock = some j → ad.block ≠ j
theorem all_keep {wr w2 : World} {s1 : Nat} {v : Value} {L2 : List Ent} {o : Obj} (h : AllI wr s1 v L2) (hb : Below wr.heap.size wr w2) : (w2.alloc o).ownsRow s1 29 13 v L2.length (L2.flatMap Ent.cells) ∧ ∀ e ∈ L2, SRd (w2.alloc o) e.sA e.sn e.sc e.ss := by
  have hb' : Below wr.heap.size wr (w2.alloc o) := hb.alloc hb.size _
  exact ⟨World.ownsRow.kept h.1.1 (row := none) ⟨hb'.os, hb'.tape, hb'.output, hb'.size, fun i hi _ => hb'.block i hi⟩ (by cases v.ownBlock <;> simp), fun e he => (h.1.2 e he).below hb'⟩
theorem all_next {wr w2 w3 : World} {s1 : Nat} {v v' : Value} {L2 : List Ent} {e : Ent} {A : Option Addr} {c : Nat} {o : Obj} (h : AllI wr s1 v L2) (hb : Below wr.heap.size wr w2) (hs : SRd w2 A e.sn c e.ss)
    (hf : ∀ ad, A = some ad → wr.heap.size ≤ ad.block ∧ ad.block < w2.heap.size) (hown : w3.ownsRow s1 29 13 v' (L2.length + 1) (L2.flatMap Ent.cells ++ (e.re A c).cells)) (hg : (w2.alloc o).grownBy w3 v.ownBlock)
    (hob : v'.ownBlock = v.ownBlock ∨ v'.ownBlock = some (w2.alloc o).heap.size) : AllI w3 s1 v' (L2 ++ [e.re A c]) := by
  have hsz : w2.heap.size + 1 ≤ w3.heap.size := by have := hg.size; simpa using this
  have hva : ∀ ad, A = some ad → ∀ j, v.ownBlock = some j → ad.block ≠ j := fun ad hd j hj => by
    have h1 := (World.ownsRow.lt h.1.1 j hj).2
    have h2 := (hf ad hd).1
    omega
  have hnew : ∀ ad : Addr, ad.block < w2.heap.size → (∀ j, v.ownBlock = some j → ad.block ≠ j) → ∀ j, v'.ownBlock = some j → ad.block ≠ j := fun ad hlt hne j hj => by
    rcases hob with h1 | h1
    · exact hne j (by rw [← h1]; exact hj)
    · rw [h1] at hj
      have := Option.some.inj hj
      rw [World.size_alloc] at this
      omega
  refine ⟨⟨?_, fun x hx => ?_⟩, fun x hx ad hd => ?_⟩
  · rw [List.length_append, List.length_singleton, List.flatMap_append]
    simpa using hown
  · rcases List.mem_append.1 hx with h1 | h1
    · refine ((all_keep h hb).2 x h1).grown hg (fun ad hd hx => ?_)
      exact (h.2 x h1 ad hd).2 _ hx.symm rfl
    · obtain rfl := List.mem_singleton.1 h1
      refine (hs.below ((Below.refl w2.heap.size w2).alloc (Nat.le_refl _) o)).grown hg (fun ad hd hx => ?_)
      exact hva ad hd _ hx.symm rfl
  · rcases List.mem_append.1 hx with h1 | h1
    · have h2 := h.2 x h1 ad hd
      have h3 := hb.size
      exact ⟨by omega, hnew ad (by omega) h2.2⟩
    · obtain rfl := List.mem_singleton.1 h1
      have h2 := hf ad hd
      exact ⟨by omega, hnew ad h2.2 (hva ad hd)⟩
theorem all_below {w wr w2 w3 : World} {v : Value} {L2 : List Ent} {o : Obj} (h : Below w.heap.size w wr) (hb : Below wr.heap.size wr w2) (hg : (w2.alloc o).grownBy w3 v.ownBlock) (hI : AllI wr w.heap.size v L2) : Below w.heap.size w w3 :=
  below_grown ((below_trans h hb h.size).alloc (Nat.le_trans h.size hb.size) _) hg (by have := h.size; have := hb.size; simp; omega) (fun k hk => (World.ownsRow.lt hI.1.1 k hk).1)
def AllPost (w : World) (L : List Ent) (e : Ending) (w' : World) : Prop := (∃ A c L2, e = .returned (.slice A L2.length c) ∧ Ents w' A L2.length c L2 ∧ L2.map Ent.core = L.map Ent.core) ∧ Below w.heap.size w w'
set_option maxRecDepth 100000 in
set_option maxHeartbeats 8000000 in
theorem all_any2 (g : Nat) (L : List Ent) (w : World) (h : Idx w g L) (hL : L.length ≤ 100000) (h9 : ∀ e ∈ L, e.sn < 9000) :
    Calls Try.prog 30 #[.pointer (some ⟨g, 0, none⟩)] w (AllPost w L) := by
  obtain ⟨A, c, hg1, hc1, hE, hA, _⟩ := h.open_
  have HE1 := Lib.hid hE
  have hle := hE.le
  have hsm := hE.small
  have H9 := Lib.hid h9
  obtain ⟨n, hn⟩ : ∃ n, n = L.length := ⟨_, rfl⟩
  rw [← hn] at hc1 HE1 hle hL
  have HN := Lib.hid hn
  clear hg1 hE hA hn h h9
  go_enter Try.func30, Try.ntmps30
  go_wp2
  go_loopw [3, 4] (fun v i wr => ∃ k : Nat, ∃ L2, k ≤ n ∧ i = .int .i64 k ∧ AllI wr w.heap.size v L2 ∧ L2.map Ent.core = (L.take k).map Ent.core ∧ Below w.heap.size w wr) (fun _ i _ => n - (intOf i).toNat)
  case atStart => exact ⟨0, [], Nat.zero_le _, rfl, ⟨⟨World.ownsRow_nil _ _ _ _, fun _ h => by cases h⟩, fun _ h => by cases h⟩, rfl, Below.refl _ _⟩
  case round =>
    obtain ⟨k, L2, hk, rfl, hI, hco, hb⟩ := hrel
    have CO := Lib.hid hco
    have BB := Lib.hid hb
    have II := Lib.hid hI
    have cg : wr.cell? ⟨g, 0, none⟩ = some (.slice A n c) := (hb.cell (World.block_lt_of_cell? w _ hc1)).trans hc1
    have HEw := Lib.hid (HE1.out.below hb)
    have hl2 : L2.length = k := by
      have := congrArg List.length hco
      rw [List.length_map, List.length_map, List.length_take, ← HN.out] at this
      omega
    clear hb hc1 hco hI
    by_cases hlt : k < n
    · have hkn : (k : Int) < n := by omega
      have hkL : k < L.length := by rw [← HN.out]; exact hlt
      obtain ⟨ad, hAd⟩ : ∃ ad, A = some ad := by
        cases A with
        | none => have := HE1.out.nil rfl; omega
        | some ad => exact ⟨ad, rfl⟩
      obtain ⟨b, o, rfl, hcells⟩ := HEw.out.spot ad hAd (by omega)
      subst hAd
      obtain ⟨e, he⟩ : ∃ x, x = L[k] := ⟨_, rfl⟩
      have hatE := hcells k hkL
      rw [← he] at hatE
      have HAT := Lib.hid hatE
      have HRW := Lib.hid (HEw.out.rows e (by rw [he]; exact List.getElem_mem hkL))
      have hsn9 := H9.out e (by rw [he]; exact List.getElem_mem hkL)
      have HEi := Lib.hid (show (Try.prog.info? 29).map (·.size) = some e.cells.length by rw [Ent.cells_length]; kernel_rfl)
      have HEE := Lib.hid he
      have HL2 := Lib.hid hl2
      clear hcells hatE he hl2
      go_wp2_with (refine wpList_load_mid rfl 29 (.tmp 20) rfl b (o + k * 13) rfl e.cells _ HAT.out.range Try.underlying29 rfl HEi.out ?_)
      refine (own_any e wr HRW.out (by omega)).mono ?_
      rintro r w2 ⟨A', c', rfl, hsr, hb2, hfr⟩
      have HSR := Lib.hid hsr
      have B2 := Lib.hid hb2
      have HFR := Lib.hid hfr
      clear hsr hb2 hfr
      go_wp2_with (first | (refine wpList_build1 rfl 22 rfl (e.re A' c') rfl ?_) | (at_builtin; refine append_at rfl (.tmp 14) (.tmp 23) 22 29 zeroE 13 120 rfl Try.underlying22 infoE rfl (by decide) w.heap.size _ L2.length _ rfl (all_keep II.out B2.out).1 ⟨w2.heap.size, 0, none⟩ 1 1 (e.re A' c').cells rfl (ent_src (at_alloc 29)) (by unfold maxLen; have := HL2.out; omega) (by have := HL2.out; omega) (by have := BB.out.size; have := B2.out.size; simp; omega) ?_; intro v' w3 hown hgr hob; have HOW := Lib.hid hown; have HGR := Lib.hid hgr; have HOB := Lib.hid hob; clear hown hgr hob))
      go_roundw
      case rel => exact ⟨k + 1, L2 ++ [e.re A' c'], by omega, by go_num, all_next II.out B2.out HSR.out HFR.out HOW.out HGR.out HOB.out, by rw [List.take_succ_eq_append_getElem hkL, List.map_append, List.map_append, CO.out, ← HEE.out]; rfl, all_below BB.out B2.out HGR.out II.out⟩
      case measure => simp [intOf]; omega
    · have hkn : ¬ (k : Int) < n := by omega
      have htk : L.take k = L := List.take_of_length_le (by rw [← HN.out]; omega)
      rw [htk] at CO
      obtain ⟨A3, c3, hv, hE3, _⟩ := II.out.1.ents
      subst hv
      have HE3 := Lib.hid hE3
      clear hE3 htk hl2
      go_wp2
      go_ret
      exact ⟨⟨_, _, _, rfl, HE3.out, CO.out⟩, BB.out⟩
end Go.Proofs.Ytbfnjfmnblafaaa.Qry
