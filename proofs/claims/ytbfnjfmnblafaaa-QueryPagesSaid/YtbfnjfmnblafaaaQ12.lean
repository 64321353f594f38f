/- The document's index in memory; steps that make memory; at. -/
import Derived.Test.YtbfnjfmnblafaaaQ11
import Derived.Test.YtbfnjfmnblafaaaFlowChain
namespace Go.Proofs.Ytbfnjfmnblafaaa.Qry
open Go.RowKit

theorem step_run {P : Program} {o : Oper} {a : Act} {w w' : World} {post : Value → World → Prop} {v : Value} (h : (execOp a.eval o).run P w = .ok (.value v) w') (hp : post v w') : Flow.step P o a w post := by
  unfold Flow.step
  rw [h]
  exact hp
theorem step_append {w : World} {o : Oper} {a : Act} {post : Value → World → Prop} (s x : Operand) (t e : TypeId) (z : Value) (size bytes : Nat)
    (ho : o.op = .call { callee := .builtin .append, args := #[s, x], argTypes := #[t, t] }) (ht : Try.prog.underlying t = some (.slice e)) (hie : (Try.prog.info? e).map (fun i => (i.zero, i.size, i.bytes)) = some (some z, size, bytes)) (hzs : z.cells.size = size) (hsz : 0 < size)
    (base : Nat) (v : Value) (n : Nat) (xs : List Value) (hs : a.eval s = v) (hown : w.ownsRow base e size v n xs)
    (A : Option Addr) (m c : Nat) (news : List Value) (hx : a.eval x = .slice A m c) (hr : Src w A m c size news) (hm : n + m ≤ maxLen) (hb : (n + m) * bytes ≤ 140737488355328) (hbase : base ≤ w.heap.size)
    (h : ∀ v' w', w'.ownsRow base e size v' (n + m) (xs ++ news) → w.grownBy w' v.ownBlock → (v'.ownBlock = v.ownBlock ∨ v'.ownBlock = some w.heap.size) → post v' w') : Flow.step Try.prog o a w post := by
  obtain ⟨i0, hi, hz0, hz1, hz2⟩ := info_parts hie
  rcases hr with ⟨rfl, rfl, rfl, rfl⟩ | ⟨ad, rfl, hl, hc, h1⟩
  · have hrun := run_append_owned_none (P := Try.prog) (w := w) base t o.type e i0 size ht hi v n xs hown
    refine step_run (v := v) (w' := w) ?_ (h v w (by simpa using hown) (World.grownBy.refl _ _) (.inl rfl))
    simp [execOp, ho, resolve, invoke, builtin, hs, hx, hrun, Result.andThen]
  · obtain ⟨v', w', hr, h2, h3, _, h5⟩ := run_append_own_at (P := Try.prog) w base t o.type e i0 z size bytes ht hi hz0 hz1 hz2 hzs hsz v n xs hown ad m c news hl hc h1 hm hb hbase
    refine step_run (v := v') (w' := w') ?_ (h v' w' h2 h3 h5)
    unfold execOp
    simp only [ho, resolve, invoke, builtin, Sem.run_bind, Sem.run_pure, Result.andThen_ok, List.map_toArray, List.map_cons, List.map_nil, hs, hx, hr]

/-- The index in block g holds these entries. -/
def Idx (w : World) (g : Nat) (L : List Ent) : Prop := ∃ v, w.heap[g]? = some (.cells #[v] 63 (0, 0)) ∧ OwnE w (g + 1) v L.length L
theorem Idx.open_ {w : World} {g : Nat} {L : List Ent} (h : Idx w g L) : ∃ A c, w.heap[g]? = some (.cells #[.slice A L.length c] 63 (0, 0)) ∧ w.cell? ⟨g, 0, none⟩ = some (.slice A L.length c) ∧ Ents w A L.length c L ∧ (∀ ad, A = some ad → ∃ b, ad = ⟨b, 0, none⟩ ∧ g + 1 ≤ b) ∧ OwnE w (g + 1) (.slice A L.length c) L.length L := by
  obtain ⟨v, hg, ho⟩ := h
  obtain ⟨A, c, rfl, he, ha⟩ := ho.ents
  exact ⟨A, c, hg, by simp [World.cell?, hg], he, ha, ho⟩
theorem Idx.below {w w1 : World} {g : Nat} {L : List Ent} (h : Idx w g L) (hb : Below w.heap.size w w1) : Idx w1 g L := by
  obtain ⟨v, hg, ho⟩ := h
  refine ⟨v, (hb.block g (Array.getElem?_eq_some_iff.1 hg).1).trans hg, World.ownsRow.kept ho.1 (row := none) ⟨hb.os, hb.tape, hb.output, hb.size, fun i hi _ => hb.block i hi⟩ (by cases v.ownBlock <;> simp), fun e he => (ho.2 e he).below hb⟩
def AtPost (id : Int) (L : List Ent) (w : World) (e : Ending) (w' : World) : Prop :=
  ((∃ k : Nat, ∃ hk : k < L.length, e = .returned (.int .i64 k) ∧ L[k].it.id = id) ∨ (e = .returned (.int .i64 (-1)) ∧ ∀ x ∈ L, x.it.id ≠ id)) ∧ w = w'
set_option maxRecDepth 100000 in
set_option maxHeartbeats 4000000 in
theorem at_any (g : Nat) (L : List Ent) (id : Int) (w : World) (h : Idx w g L) :
    Calls Try.prog 40 #[.pointer (some ⟨g, 0, none⟩), .int .i64 id] w (AtPost id L w) := by
  obtain ⟨A, c, _, hc, hE, _, _⟩ := h.open_
  have HE := Lib.hid hE
  have hle := hE.le
  have hsm := hE.small
  obtain ⟨nl, hnl⟩ : ∃ n, n = L.length := ⟨_, rfl⟩
  rw [← hnl] at hc hle HE
  have HL := Lib.hid hnl
  clear hE h hnl
  go_enter Try.func40, Try.ntmps40
  go_wp2
  go_loop [5] (fun i => ∃ k : Nat, k ≤ nl ∧ i = .int .i64 k ∧ ∀ x ∈ L.take k, x.it.id ≠ id) (fun i => nl - (intOf i).toNat)
  case atStart => exact ⟨0, Nat.zero_le _, rfl, fun x hx => absurd hx (by simp)⟩
  case round =>
    obtain ⟨k, hk, rfl, hno⟩ := hrel
    have HNO := Lib.hid hno
    clear hno
    by_cases hlt : k < nl
    · have hkn : (k : Int) < nl := by omega
      have hkL : k < L.length := by rw [← HL.out]; exact hlt
      obtain ⟨ad, hAd⟩ : ∃ ad, A = some ad := by
        cases A with
        | none => have := HE.out.nil rfl; omega
        | some ad => exact ⟨ad, rfl⟩
      obtain ⟨b, o, rfl, hcells⟩ := HE.out.spot ad hAd (by omega)
      subst hAd
      obtain ⟨e, he⟩ : ∃ e, e = L[k] := ⟨_, rfl⟩
      have hatE := hcells k hkL
      rw [← he] at hatE
      have hcs : w.cell? ⟨b, o + k * 13, none⟩ = some (.int .i64 e.it.id) := hatE 0 (by rw [Ent.cells_length]; decide)
      have HEE := Lib.hid he
      clear hcells hatE he
      by_cases hid : e.it.id = id
      · have hd : (e.it.id == id) = true := by simpa using hid
        have HID := Lib.hid hid
        clear hid
        go_wp2
        go_ret
        exact ⟨.inl ⟨k, hkL, rfl, by rw [← HEE.out]; exact HID.out⟩, rfl⟩
      · have hd : (e.it.id == id) = false := by simpa using hid
        go_wp2
        go_round
        case rel => exact ⟨k + 1, by omega, by go_num, fun x hx => by
          rw [List.take_succ_eq_append_getElem hkL] at hx
          rcases List.mem_append.1 hx with h1 | h1
          · exact HNO.out x h1
          · obtain rfl := List.mem_singleton.1 h1
            rw [← HEE.out]; exact hid⟩
        case measure => simp [intOf]; omega
    · have hkn : ¬ (k : Int) < nl := by omega
      go_wp2
      go_ret
      exact ⟨.inr ⟨rfl, fun x hx => HNO.out x (by rw [List.take_of_length_le (by rw [← HL.out]; omega)]; exact hx)⟩, rfl⟩
end Go.Proofs.Ytbfnjfmnblafaaa.Qry
