/-
  No cell of these rows narrows 'for every input' (looked for: loops, veiled, ifaces, maps, wideKeys, modest, calm, conditions, laid).
  DERIVED. THE GIVEN ROWS OF THIS SEAT. 4 by the template 'for every input the law returns true; each argument reads behind the call as it read before'; 0 by the template 'total and deterministic' (their statements: YtbcogccamagkmaaTotals.lean).
  GIVEN WITH THE SEED: the statements are not yours to turn. If you find one false, say at which input.
  Laid BY PROGRAM, IN A SANDBOX (cutbox-rows.mjs): the forced cells as the released guide's own fill.sh prints them over the translation 981d3a51c30e69ee… (all of the seat's roots in one cut). By AI agents, Wed Nov 11 2026. No macro, syntax, notation, axiom, sorry.
-/
import Derived.Test.YtbcogccamagkmaaChecked
import GoSem.Claim
import GoSem.ClaimJoined
import GoSem.ClaimMapViews
import Derived.JoinedTies
import Derived.KernelRfl
namespace Go.Proofs.Ytbcogccamagkmaa
/- THE CELL 'sum', in the pinned program and in every row, IS THE sha256 OF THE DUMP (.gsa) THAT YtbcogccamagkmaaProg.lean LOADS. Nothing in Lean hashes anything: it is a label: what it is worth is what the hold of that sum in a sandbox is worth. -/
noncomputable def Try.pinned : Pinned := { name := "ytbcogccamagkmaa", sum := "981d3a51c30e69eed5cacc21ad388dc0692f765d99ce2dcb45f86b912d017772", checked := Try.checked }
namespace Rows
def none {H : Type} : Left H := { results := [], args := [] }

/-- 'pantrylaw2.B32Lens': WHATEVER THE INPUT: true; the input reads as it did. -/
def b32LensSpec : ChangeSpec := { name := "b32Lens", fn := fun _ => fun
  | [d] => { results := [.lit (.bool true)], args := [d] }
  | _ => none }
def b32LensRow : OpenClaim := { program := "ytbcogccamagkmaa", sum := "981d3a51c30e69eed5cacc21ad388dc0692f765d99ce2dcb45f86b912d017772", func := "pantry/pantrylaw2.B32Lens", spec := "b32Lens", apart := false }
def B32LensSaid : Prop := b32LensRow.holds Try.pinned (OpenSpec.ofChange b32LensSpec)

/-- ITS FALSE NEIGHBOUR: 'it returns false'. Refute it at one input. -/
def b32LensWrong : ChangeSpec := { name := "b32Lens", fn := fun _ => fun
  | [d] => { results := [.lit (.bool false)], args := [d] }
  | _ => none }
def B32LensWrongFalsely : Prop := b32LensRow.holds Try.pinned (OpenSpec.ofChange b32LensWrong)

/-- 'pantrylaw2.B32Unlike': WHATEVER THE INPUT: true; the input reads as it did. -/
def b32UnlikeSpec : ChangeSpec := { name := "b32Unlike", fn := fun _ => fun
  | [d1, d2, d3] => { results := [.lit (.bool true)], args := [d1, d2, d3] }
  | _ => none }
def b32UnlikeRow : OpenClaim := { program := "ytbcogccamagkmaa", sum := "981d3a51c30e69eed5cacc21ad388dc0692f765d99ce2dcb45f86b912d017772", func := "pantry/pantrylaw2.B32Unlike", spec := "b32Unlike", apart := false }
def B32UnlikeSaid : Prop := b32UnlikeRow.holds Try.pinned (OpenSpec.ofChange b32UnlikeSpec)

/-- ITS FALSE NEIGHBOUR: 'it returns false'. Refute it at one input. -/
def b32UnlikeWrong : ChangeSpec := { name := "b32Unlike", fn := fun _ => fun
  | [d1, d2, d3] => { results := [.lit (.bool false)], args := [d1, d2, d3] }
  | _ => none }
def B32UnlikeWrongFalsely : Prop := b32UnlikeRow.holds Try.pinned (OpenSpec.ofChange b32UnlikeWrong)

/-- 'pantrylaw2.B32Texts': WHATEVER THE INPUT: true; the input reads as it did. -/
def b32TextsSpec : ChangeSpec := { name := "b32Texts", fn := fun _ => fun
  | [d] => { results := [.lit (.bool true)], args := [d] }
  | _ => none }
def b32TextsRow : OpenClaim := { program := "ytbcogccamagkmaa", sum := "981d3a51c30e69eed5cacc21ad388dc0692f765d99ce2dcb45f86b912d017772", func := "pantry/pantrylaw2.B32Texts", spec := "b32Texts", inPlace := ["internal/bytealg.IndexByteString"], apart := false }
def B32TextsSaid : Prop := b32TextsRow.holds Try.pinned (OpenSpec.ofChange b32TextsSpec)

/-- ITS FALSE NEIGHBOUR: 'it returns false'. Refute it at one input. -/
def b32TextsWrong : ChangeSpec := { name := "b32Texts", fn := fun _ => fun
  | [d] => { results := [.lit (.bool false)], args := [d] }
  | _ => none }
def B32TextsWrongFalsely : Prop := b32TextsRow.holds Try.pinned (OpenSpec.ofChange b32TextsWrong)

/-- 'pantrylaw2.B32Parses': WHATEVER THE INPUT: true; the input reads as it did. -/
def b32ParsesSpec : ChangeSpec := { name := "b32Parses", fn := fun _ => fun
  | [d1, d2] => { results := [.lit (.bool true)], args := [d1, d2] }
  | _ => none }
def b32ParsesRow : OpenClaim := { program := "ytbcogccamagkmaa", sum := "981d3a51c30e69eed5cacc21ad388dc0692f765d99ce2dcb45f86b912d017772", func := "pantry/pantrylaw2.B32Parses", spec := "b32Parses", inPlace := ["internal/bytealg.IndexByteString"], apart := false }
def B32ParsesSaid : Prop := b32ParsesRow.holds Try.pinned (OpenSpec.ofChange b32ParsesSpec)

/-- ITS FALSE NEIGHBOUR: 'it returns false'. Refute it at one input. -/
def b32ParsesWrong : ChangeSpec := { name := "b32Parses", fn := fun _ => fun
  | [d1, d2] => { results := [.lit (.bool false)], args := [d1, d2] }
  | _ => none }
def B32ParsesWrongFalsely : Prop := b32ParsesRow.holds Try.pinned (OpenSpec.ofChange b32ParsesWrong)

/- THE SECOND FORM. 'bulk': how many values and letters a reading holds, each counted each time it is reached (what is shared counts as often as it is met; a slice's spare places count too). A statement '..UptoSaid' is the law's where the arguments, and the package variables that the reading takes, are together of bulk at most 1048576: NARROWER than '..Said'. Prove '..Said' where nothing that the law and all that it calls make is longer than what came in: it says more and counts as full. Else prove '..UptoSaid'. A law counts once. -/
mutual
def uptoBulk {H : Type} : DataW H → Nat
  | .lit (.string bytes) => bytes.length + 1
  | .lit _ => 1
  | .nil => 1
  | .ptr d => uptoBulk d + 1
  | .slice elems spare => uptoBulkAll elems + uptoBulkAll spare + 1
  | .agg parts => uptoBulkAll parts + 1
  | .iface _ d => uptoBulk d + 1
  | .map entries => uptoBulkEntries entries + 1
  | .held _ => 1
def uptoBulkAll {H : Type} : List (DataW H) → Nat
  | [] => 0
  | d :: r => uptoBulk d + uptoBulkAll r
def uptoBulkEntries {H : Type} : List (Lit × DataW H) → Nat
  | [] => 0
  | x :: r => uptoBulkEntry x + uptoBulkEntries r
def uptoBulkEntry {H : Type} : Lit × DataW H → Nat
  | (.string bytes, d) => bytes.length + uptoBulk d + 1
  | (_, d) => uptoBulk d + 1
 end
def uptoSmall : (H : Type) → List (DataW H) → Bool := fun _ ds => decide (uptoBulkAll ds ≤ 1048576)
def OpenSpec.upto (s : _root_.Go.ChangeSpec) : _root_.Go.OpenSpec := { _root_.Go.OpenSpec.ofChange s with cond := some uptoSmall }

/-- 'pantrylaw2.B32Lens', WHERE WHAT IT READS IS OF BULK AT MOST 1048576: true; the input reads as it did. -/
def b32LensUptoRow : OpenClaim := { program := "ytbcogccamagkmaa", sum := "981d3a51c30e69eed5cacc21ad388dc0692f765d99ce2dcb45f86b912d017772", func := "pantry/pantrylaw2.B32Lens", spec := "b32Lens", apart := false, narrowed := true }
def B32LensUptoSaid : Prop := b32LensUptoRow.holds Try.pinned (OpenSpec.upto b32LensSpec)

/-- 'pantrylaw2.B32Unlike', WHERE WHAT IT READS IS OF BULK AT MOST 1048576: true; the input reads as it did. -/
def b32UnlikeUptoRow : OpenClaim := { program := "ytbcogccamagkmaa", sum := "981d3a51c30e69eed5cacc21ad388dc0692f765d99ce2dcb45f86b912d017772", func := "pantry/pantrylaw2.B32Unlike", spec := "b32Unlike", apart := false, narrowed := true }
def B32UnlikeUptoSaid : Prop := b32UnlikeUptoRow.holds Try.pinned (OpenSpec.upto b32UnlikeSpec)

/-- 'pantrylaw2.B32Texts', WHERE WHAT IT READS IS OF BULK AT MOST 1048576: true; the input reads as it did. -/
def b32TextsUptoRow : OpenClaim := { program := "ytbcogccamagkmaa", sum := "981d3a51c30e69eed5cacc21ad388dc0692f765d99ce2dcb45f86b912d017772", func := "pantry/pantrylaw2.B32Texts", spec := "b32Texts", inPlace := ["internal/bytealg.IndexByteString"], apart := false, narrowed := true }
def B32TextsUptoSaid : Prop := b32TextsUptoRow.holds Try.pinned (OpenSpec.upto b32TextsSpec)

/-- 'pantrylaw2.B32Parses', WHERE WHAT IT READS IS OF BULK AT MOST 1048576: true; the input reads as it did. -/
def b32ParsesUptoRow : OpenClaim := { program := "ytbcogccamagkmaa", sum := "981d3a51c30e69eed5cacc21ad388dc0692f765d99ce2dcb45f86b912d017772", func := "pantry/pantrylaw2.B32Parses", spec := "b32Parses", inPlace := ["internal/bytealg.IndexByteString"], apart := false, narrowed := true }
def B32ParsesUptoSaid : Prop := b32ParsesUptoRow.holds Try.pinned (OpenSpec.upto b32ParsesSpec)

end Rows
end Go.Proofs.Ytbcogccamagkmaa
