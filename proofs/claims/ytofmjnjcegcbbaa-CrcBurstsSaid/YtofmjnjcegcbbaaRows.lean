/-
  No cell of these rows narrows 'for every input' (looked for: loops, veiled, ifaces, maps, wideKeys, modest, calm, conditions, laid).
  DERIVED. THE GIVEN ROWS OF THIS SEAT. 6 by the template 'for every input the law returns true; each argument reads behind the call as it read before'; 0 by the template 'total and deterministic' (their statements: YtofmjnjcegcbbaaTotals.lean).
  GIVEN WITH THE SEED: the statements are not yours to turn. If you find one false, say at which input.
  Laid BY PROGRAM, IN A SANDBOX (cutbox-rows.mjs): the forced cells as the released guide's own fill.sh prints them over the translation 223bdd94ffb49517… (all of the seat's roots in one cut). By AI agents, Wed Nov 11 2026. No macro, syntax, notation, axiom, sorry.
-/
import Derived.Test.YtofmjnjcegcbbaaChecked
import GoSem.Claim
import GoSem.ClaimJoined
import GoSem.ClaimMapViews
import Derived.JoinedTies
import Derived.KernelRfl
namespace Go.Proofs.Ytofmjnjcegcbbaa
/- THE CELL 'sum', in the pinned program and in every row, IS THE sha256 OF THE DUMP (.gsa) THAT YtofmjnjcegcbbaaProg.lean LOADS. Nothing in Lean hashes anything: it is a label: what it is worth is what the hold of that sum in a sandbox is worth. -/
noncomputable def Try.pinned : Pinned := { name := "ytofmjnjcegcbbaa", sum := "223bdd94ffb495175676c9918d2e53de2eea1d2e6ba6e5d12009dc217eb2f05e", checked := Try.checked }
namespace Rows
def none {H : Type} : Left H := { results := [], args := [] }

/-- 'turntablelaw02.CrcTells': WHATEVER THE INPUT: true; the input reads as it did. -/
def crcTellsSpec : ChangeSpec := { name := "crcTells", fn := fun _ => fun
  | [d1, d2] => { results := [.lit (.bool true)], args := [d1, d2] }
  | _ => none }
def crcTellsRow : OpenClaim := { program := "ytofmjnjcegcbbaa", sum := "223bdd94ffb495175676c9918d2e53de2eea1d2e6ba6e5d12009dc217eb2f05e", func := "turntable/turntablelaw02.CrcTells", spec := "crcTells", apart := false }
def CrcTellsSaid : Prop := crcTellsRow.holds Try.pinned (OpenSpec.ofChange crcTellsSpec)

/-- ITS FALSE NEIGHBOUR: 'it returns false'. Refute it at one input. -/
def crcTellsWrong : ChangeSpec := { name := "crcTells", fn := fun _ => fun
  | [d1, d2] => { results := [.lit (.bool false)], args := [d1, d2] }
  | _ => none }
def CrcTellsWrongFalsely : Prop := crcTellsRow.holds Try.pinned (OpenSpec.ofChange crcTellsWrong)

/-- 'turntablelaw02.CrcParts': WHATEVER THE INPUT: true; the input reads as it did. -/
def crcPartsSpec : ChangeSpec := { name := "crcParts", fn := fun _ => fun
  | [d1, d2, d3] => { results := [.lit (.bool true)], args := [d1, d2, d3] }
  | _ => none }
def crcPartsRow : OpenClaim := { program := "ytofmjnjcegcbbaa", sum := "223bdd94ffb495175676c9918d2e53de2eea1d2e6ba6e5d12009dc217eb2f05e", func := "turntable/turntablelaw02.CrcParts", spec := "crcParts", apart := false }
def CrcPartsSaid : Prop := crcPartsRow.holds Try.pinned (OpenSpec.ofChange crcPartsSpec)

/-- ITS FALSE NEIGHBOUR: 'it returns false'. Refute it at one input. -/
def crcPartsWrong : ChangeSpec := { name := "crcParts", fn := fun _ => fun
  | [d1, d2, d3] => { results := [.lit (.bool false)], args := [d1, d2, d3] }
  | _ => none }
def CrcPartsWrongFalsely : Prop := crcPartsRow.holds Try.pinned (OpenSpec.ofChange crcPartsWrong)

/-- 'turntablelaw02.CrcBursts': WHATEVER THE INPUT: true; the input reads as it did. -/
def crcBurstsSpec : ChangeSpec := { name := "crcBursts", fn := fun _ => fun
  | [d1, d2, d3] => { results := [.lit (.bool true)], args := [d1, d2, d3] }
  | _ => none }
def crcBurstsRow : OpenClaim := { program := "ytofmjnjcegcbbaa", sum := "223bdd94ffb495175676c9918d2e53de2eea1d2e6ba6e5d12009dc217eb2f05e", func := "turntable/turntablelaw02.CrcBursts", spec := "crcBursts", apart := false }
def CrcBurstsSaid : Prop := crcBurstsRow.holds Try.pinned (OpenSpec.ofChange crcBurstsSpec)

/-- ITS FALSE NEIGHBOUR: 'it returns false'. Refute it at one input. -/
def crcBurstsWrong : ChangeSpec := { name := "crcBursts", fn := fun _ => fun
  | [d1, d2, d3] => { results := [.lit (.bool false)], args := [d1, d2, d3] }
  | _ => none }
def CrcBurstsWrongFalsely : Prop := crcBurstsRow.holds Try.pinned (OpenSpec.ofChange crcBurstsWrong)

/-- 'turntablelaw02.CrcXor': WHATEVER THE INPUT: true; the input reads as it did. -/
def crcXorSpec : ChangeSpec := { name := "crcXor", fn := fun _ => fun
  | [d1, d2, d3] => { results := [.lit (.bool true)], args := [d1, d2, d3] }
  | _ => none }
def crcXorRow : OpenClaim := { program := "ytofmjnjcegcbbaa", sum := "223bdd94ffb495175676c9918d2e53de2eea1d2e6ba6e5d12009dc217eb2f05e", func := "turntable/turntablelaw02.CrcXor", spec := "crcXor", apart := false }
def CrcXorSaid : Prop := crcXorRow.holds Try.pinned (OpenSpec.ofChange crcXorSpec)

/-- ITS FALSE NEIGHBOUR: 'it returns false'. Refute it at one input. -/
def crcXorWrong : ChangeSpec := { name := "crcXor", fn := fun _ => fun
  | [d1, d2, d3] => { results := [.lit (.bool false)], args := [d1, d2, d3] }
  | _ => none }
def CrcXorWrongFalsely : Prop := crcXorRow.holds Try.pinned (OpenSpec.ofChange crcXorWrong)

/-- 'turntablelaw02.CrcBack': WHATEVER THE INPUT: true; the input reads as it did. -/
def crcBackSpec : ChangeSpec := { name := "crcBack", fn := fun _ => fun
  | [d] => { results := [.lit (.bool true)], args := [d] }
  | _ => none }
def crcBackRow : OpenClaim := { program := "ytofmjnjcegcbbaa", sum := "223bdd94ffb495175676c9918d2e53de2eea1d2e6ba6e5d12009dc217eb2f05e", func := "turntable/turntablelaw02.CrcBack", spec := "crcBack", apart := false }
def CrcBackSaid : Prop := crcBackRow.holds Try.pinned (OpenSpec.ofChange crcBackSpec)

/-- ITS FALSE NEIGHBOUR: 'it returns false'. Refute it at one input. -/
def crcBackWrong : ChangeSpec := { name := "crcBack", fn := fun _ => fun
  | [d] => { results := [.lit (.bool false)], args := [d] }
  | _ => none }
def CrcBackWrongFalsely : Prop := crcBackRow.holds Try.pinned (OpenSpec.ofChange crcBackWrong)

/-- 'turntablelaw02.CrcMore': WHATEVER THE INPUT: true; the input reads as it did. -/
def crcMoreSpec : ChangeSpec := { name := "crcMore", fn := fun _ => fun
  | [d1, d2, d3] => { results := [.lit (.bool true)], args := [d1, d2, d3] }
  | _ => none }
def crcMoreRow : OpenClaim := { program := "ytofmjnjcegcbbaa", sum := "223bdd94ffb495175676c9918d2e53de2eea1d2e6ba6e5d12009dc217eb2f05e", func := "turntable/turntablelaw02.CrcMore", spec := "crcMore", apart := false }
def CrcMoreSaid : Prop := crcMoreRow.holds Try.pinned (OpenSpec.ofChange crcMoreSpec)

/-- ITS FALSE NEIGHBOUR: 'it returns false'. Refute it at one input. -/
def crcMoreWrong : ChangeSpec := { name := "crcMore", fn := fun _ => fun
  | [d1, d2, d3] => { results := [.lit (.bool false)], args := [d1, d2, d3] }
  | _ => none }
def CrcMoreWrongFalsely : Prop := crcMoreRow.holds Try.pinned (OpenSpec.ofChange crcMoreWrong)

/- THE SECOND FORM. 'bulk': how many values and letters a reading holds, each counted each time it is reached (what is shared counts as often as it is met; a slice's spare places count too). A statement '..UptoSaid' is the law's where the arguments, and the package variables that the reading takes, are together of bulk at most 1048576: NARROWER than '..Said'. Prove '..Said' where nothing that the law and all that it calls make is longer than what came in: it says more and counts as full. Else prove '..UptoSaid'. A law counts once. -/
mutual
def uptoBulk {H : Type} : DataW H → Nat
  | .lit (.string bytes) => bytes.length + 1
  | .lit _ => 1
  | .nil => 1
  | .ptr d => uptoBulk d + 1
  | .slice elems spare => uptoBulkAll elems + uptoBulkAll spare + 1
  | .agg parts => uptoBulkAll parts + 1
  | .iface _ d => uptoBulk d + 1
  | .map entries => uptoBulkEntries entries + 1
  | .held _ => 1
def uptoBulkAll {H : Type} : List (DataW H) → Nat
  | [] => 0
  | d :: r => uptoBulk d + uptoBulkAll r
def uptoBulkEntries {H : Type} : List (Lit × DataW H) → Nat
  | [] => 0
  | x :: r => uptoBulkEntry x + uptoBulkEntries r
def uptoBulkEntry {H : Type} : Lit × DataW H → Nat
  | (.string bytes, d) => bytes.length + uptoBulk d + 1
  | (_, d) => uptoBulk d + 1
 end
def uptoSmall : (H : Type) → List (DataW H) → Bool := fun _ ds => decide (uptoBulkAll ds ≤ 1048576)
def OpenSpec.upto (s : _root_.Go.ChangeSpec) : _root_.Go.OpenSpec := { _root_.Go.OpenSpec.ofChange s with cond := some uptoSmall }

/-- 'turntablelaw02.CrcTells', WHERE WHAT IT READS IS OF BULK AT MOST 1048576: true; the input reads as it did. -/
def crcTellsUptoRow : OpenClaim := { program := "ytofmjnjcegcbbaa", sum := "223bdd94ffb495175676c9918d2e53de2eea1d2e6ba6e5d12009dc217eb2f05e", func := "turntable/turntablelaw02.CrcTells", spec := "crcTells", apart := false, narrowed := true }
def CrcTellsUptoSaid : Prop := crcTellsUptoRow.holds Try.pinned (OpenSpec.upto crcTellsSpec)

/-- 'turntablelaw02.CrcParts', WHERE WHAT IT READS IS OF BULK AT MOST 1048576: true; the input reads as it did. -/
def crcPartsUptoRow : OpenClaim := { program := "ytofmjnjcegcbbaa", sum := "223bdd94ffb495175676c9918d2e53de2eea1d2e6ba6e5d12009dc217eb2f05e", func := "turntable/turntablelaw02.CrcParts", spec := "crcParts", apart := false, narrowed := true }
def CrcPartsUptoSaid : Prop := crcPartsUptoRow.holds Try.pinned (OpenSpec.upto crcPartsSpec)

/-- 'turntablelaw02.CrcBursts', WHERE WHAT IT READS IS OF BULK AT MOST 1048576: true; the input reads as it did. -/
def crcBurstsUptoRow : OpenClaim := { program := "ytofmjnjcegcbbaa", sum := "223bdd94ffb495175676c9918d2e53de2eea1d2e6ba6e5d12009dc217eb2f05e", func := "turntable/turntablelaw02.CrcBursts", spec := "crcBursts", apart := false, narrowed := true }
def CrcBurstsUptoSaid : Prop := crcBurstsUptoRow.holds Try.pinned (OpenSpec.upto crcBurstsSpec)

/-- 'turntablelaw02.CrcXor', WHERE WHAT IT READS IS OF BULK AT MOST 1048576: true; the input reads as it did. -/
def crcXorUptoRow : OpenClaim := { program := "ytofmjnjcegcbbaa", sum := "223bdd94ffb495175676c9918d2e53de2eea1d2e6ba6e5d12009dc217eb2f05e", func := "turntable/turntablelaw02.CrcXor", spec := "crcXor", apart := false, narrowed := true }
def CrcXorUptoSaid : Prop := crcXorUptoRow.holds Try.pinned (OpenSpec.upto crcXorSpec)

/-- 'turntablelaw02.CrcBack', WHERE WHAT IT READS IS OF BULK AT MOST 1048576: true; the input reads as it did. -/
def crcBackUptoRow : OpenClaim := { program := "ytofmjnjcegcbbaa", sum := "223bdd94ffb495175676c9918d2e53de2eea1d2e6ba6e5d12009dc217eb2f05e", func := "turntable/turntablelaw02.CrcBack", spec := "crcBack", apart := false, narrowed := true }
def CrcBackUptoSaid : Prop := crcBackUptoRow.holds Try.pinned (OpenSpec.upto crcBackSpec)

/-- 'turntablelaw02.CrcMore', WHERE WHAT IT READS IS OF BULK AT MOST 1048576: true; the input reads as it did. -/
def crcMoreUptoRow : OpenClaim := { program := "ytofmjnjcegcbbaa", sum := "223bdd94ffb495175676c9918d2e53de2eea1d2e6ba6e5d12009dc217eb2f05e", func := "turntable/turntablelaw02.CrcMore", spec := "crcMore", apart := false, narrowed := true }
def CrcMoreUptoSaid : Prop := crcMoreUptoRow.holds Try.pinned (OpenSpec.upto crcMoreSpec)

end Rows
end Go.Proofs.Ytofmjnjcegcbbaa
