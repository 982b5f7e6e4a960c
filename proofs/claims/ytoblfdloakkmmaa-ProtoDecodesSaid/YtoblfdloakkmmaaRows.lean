/-
  No cell of these rows narrows 'for every input' (looked for: loops, veiled, ifaces, maps, wideKeys, modest, calm, conditions, laid).
  DERIVED. THE GIVEN ROWS OF THIS SEAT. 6 by the template 'for every input the law returns true; each argument reads behind the call as it read before'; 0 by the template 'total and deterministic' (their statements: YtoblfdloakkmmaaTotals.lean).
  GIVEN WITH THE SEED: the statements are not yours to turn. If you find one false, say at which input.
  Laid BY PROGRAM, IN A SANDBOX (cutbox-rows.mjs): the forced cells as the released guide's own fill.sh prints them over the translation 0fc3abf0b958aef0… (all of the seat's roots in one cut). By AI agents, Wed Nov 11 2026. No macro, syntax, notation, axiom, sorry.
-/
import Derived.Test.YtoblfdloakkmmaaChecked
import GoSem.Claim
import GoSem.ClaimJoined
import GoSem.ClaimMapViews
import Derived.JoinedTies
import Derived.KernelRfl
namespace Go.Proofs.Ytoblfdloakkmmaa
/- THE CELL 'sum', in the pinned program and in every row, IS THE sha256 OF THE DUMP (.gsa) THAT YtoblfdloakkmmaaProg.lean LOADS. Nothing in Lean hashes anything: it is a label: what it is worth is what the hold of that sum in a sandbox is worth. -/
noncomputable def Try.pinned : Pinned := { name := "ytoblfdloakkmmaa", sum := "0fc3abf0b958aef07a23af3c16aa36dd32f50c5512bf318de21492a01be450ea", checked := Try.checked }
namespace Rows
def none {H : Type} : Left H := { results := [], args := [] }

/-- 'pantrylaw26.ProtoEncodes': WHATEVER THE INPUT: true; the input reads as it did. -/
def protoEncodesSpec : ChangeSpec := { name := "protoEncodes", fn := fun _ => fun
  | [d1, d2, d3] => { results := [.lit (.bool true)], args := [d1, d2, d3] }
  | _ => none }
def protoEncodesRow : OpenClaim := { program := "ytoblfdloakkmmaa", sum := "0fc3abf0b958aef07a23af3c16aa36dd32f50c5512bf318de21492a01be450ea", func := "pantry/pantrylaw26.ProtoEncodes", spec := "protoEncodes", apart := false }
def ProtoEncodesSaid : Prop := protoEncodesRow.holds Try.pinned (OpenSpec.ofChange protoEncodesSpec)

/-- ITS FALSE NEIGHBOUR: 'it returns false'. Refute it at one input. -/
def protoEncodesWrong : ChangeSpec := { name := "protoEncodes", fn := fun _ => fun
  | [d1, d2, d3] => { results := [.lit (.bool false)], args := [d1, d2, d3] }
  | _ => none }
def ProtoEncodesWrongFalsely : Prop := protoEncodesRow.holds Try.pinned (OpenSpec.ofChange protoEncodesWrong)

/-- 'pantrylaw26.ProtoBounds': WHATEVER THE INPUT: true; the input reads as it did. -/
def protoBoundsSpec : ChangeSpec := { name := "protoBounds", fn := fun _ => fun
  | [d1, d2, d3] => { results := [.lit (.bool true)], args := [d1, d2, d3] }
  | _ => none }
def protoBoundsRow : OpenClaim := { program := "ytoblfdloakkmmaa", sum := "0fc3abf0b958aef07a23af3c16aa36dd32f50c5512bf318de21492a01be450ea", func := "pantry/pantrylaw26.ProtoBounds", spec := "protoBounds", apart := false }
def ProtoBoundsSaid : Prop := protoBoundsRow.holds Try.pinned (OpenSpec.ofChange protoBoundsSpec)

/-- ITS FALSE NEIGHBOUR: 'it returns false'. Refute it at one input. -/
def protoBoundsWrong : ChangeSpec := { name := "protoBounds", fn := fun _ => fun
  | [d1, d2, d3] => { results := [.lit (.bool false)], args := [d1, d2, d3] }
  | _ => none }
def ProtoBoundsWrongFalsely : Prop := protoBoundsRow.holds Try.pinned (OpenSpec.ofChange protoBoundsWrong)

/-- 'pantrylaw26.ProtoBack': WHATEVER THE INPUT: true; the input reads as it did. -/
def protoBackSpec : ChangeSpec := { name := "protoBack", fn := fun _ => fun
  | [d1, d2, d3, d4] => { results := [.lit (.bool true)], args := [d1, d2, d3, d4] }
  | _ => none }
def protoBackRow : OpenClaim := { program := "ytoblfdloakkmmaa", sum := "0fc3abf0b958aef07a23af3c16aa36dd32f50c5512bf318de21492a01be450ea", func := "pantry/pantrylaw26.ProtoBack", spec := "protoBack", unfollowed := true, recurses := true, apart := false }
def ProtoBackSaid : Prop := protoBackRow.holds Try.pinned (OpenSpec.ofChange protoBackSpec)

/-- ITS FALSE NEIGHBOUR: 'it returns false'. Refute it at one input. -/
def protoBackWrong : ChangeSpec := { name := "protoBack", fn := fun _ => fun
  | [d1, d2, d3, d4] => { results := [.lit (.bool false)], args := [d1, d2, d3, d4] }
  | _ => none }
def ProtoBackWrongFalsely : Prop := protoBackRow.holds Try.pinned (OpenSpec.ofChange protoBackWrong)

/-- 'pantrylaw26.ProtoCuts': WHATEVER THE INPUT: true; the input reads as it did. -/
def protoCutsSpec : ChangeSpec := { name := "protoCuts", fn := fun _ => fun
  | [d1, d2, d3, d4] => { results := [.lit (.bool true)], args := [d1, d2, d3, d4] }
  | _ => none }
def protoCutsRow : OpenClaim := { program := "ytoblfdloakkmmaa", sum := "0fc3abf0b958aef07a23af3c16aa36dd32f50c5512bf318de21492a01be450ea", func := "pantry/pantrylaw26.ProtoCuts", spec := "protoCuts", unfollowed := true, recurses := true, apart := false }
def ProtoCutsSaid : Prop := protoCutsRow.holds Try.pinned (OpenSpec.ofChange protoCutsSpec)

/-- ITS FALSE NEIGHBOUR: 'it returns false'. Refute it at one input. -/
def protoCutsWrong : ChangeSpec := { name := "protoCuts", fn := fun _ => fun
  | [d1, d2, d3, d4] => { results := [.lit (.bool false)], args := [d1, d2, d3, d4] }
  | _ => none }
def ProtoCutsWrongFalsely : Prop := protoCutsRow.holds Try.pinned (OpenSpec.ofChange protoCutsWrong)

/-- 'pantrylaw26.ProtoDecodes': WHATEVER THE INPUT: true; the input reads as it did. -/
def protoDecodesSpec : ChangeSpec := { name := "protoDecodes", fn := fun _ => fun
  | [d] => { results := [.lit (.bool true)], args := [d] }
  | _ => none }
def protoDecodesRow : OpenClaim := { program := "ytoblfdloakkmmaa", sum := "0fc3abf0b958aef07a23af3c16aa36dd32f50c5512bf318de21492a01be450ea", func := "pantry/pantrylaw26.ProtoDecodes", spec := "protoDecodes", unfollowed := true, recurses := true, apart := false }
def ProtoDecodesSaid : Prop := protoDecodesRow.holds Try.pinned (OpenSpec.ofChange protoDecodesSpec)

/-- ITS FALSE NEIGHBOUR: 'it returns false'. Refute it at one input. -/
def protoDecodesWrong : ChangeSpec := { name := "protoDecodes", fn := fun _ => fun
  | [d] => { results := [.lit (.bool false)], args := [d] }
  | _ => none }
def ProtoDecodesWrongFalsely : Prop := protoDecodesRow.holds Try.pinned (OpenSpec.ofChange protoDecodesWrong)

/-- 'pantrylaw26.ProtoReplies': WHATEVER THE INPUT: true; the input reads as it did. -/
def protoRepliesSpec : ChangeSpec := { name := "protoReplies", fn := fun _ => fun
  | [d1, d2] => { results := [.lit (.bool true)], args := [d1, d2] }
  | _ => none }
def protoRepliesRow : OpenClaim := { program := "ytoblfdloakkmmaa", sum := "0fc3abf0b958aef07a23af3c16aa36dd32f50c5512bf318de21492a01be450ea", func := "pantry/pantrylaw26.ProtoReplies", spec := "protoReplies", unfollowed := true, recurses := true, apart := false }
def ProtoRepliesSaid : Prop := protoRepliesRow.holds Try.pinned (OpenSpec.ofChange protoRepliesSpec)

/-- ITS FALSE NEIGHBOUR: 'it returns false'. Refute it at one input. -/
def protoRepliesWrong : ChangeSpec := { name := "protoReplies", fn := fun _ => fun
  | [d1, d2] => { results := [.lit (.bool false)], args := [d1, d2] }
  | _ => none }
def ProtoRepliesWrongFalsely : Prop := protoRepliesRow.holds Try.pinned (OpenSpec.ofChange protoRepliesWrong)

/- THE SECOND FORM. 'bulk': how many values and letters a reading holds, each counted each time it is reached (what is shared counts as often as it is met; a slice's spare places count too). A statement '..UptoSaid' is the law's where the arguments, and the package variables that the reading takes, are together of bulk at most 1048576: NARROWER than '..Said'. Prove '..Said' where nothing that the law and all that it calls make is longer than what came in: it says more and counts as full. Else prove '..UptoSaid'. A law counts once. -/
mutual
def uptoBulk {H : Type} : DataW H → Nat
  | .lit (.string bytes) => bytes.length + 1
  | .lit _ => 1
  | .nil => 1
  | .ptr d => uptoBulk d + 1
  | .slice elems spare => uptoBulkAll elems + uptoBulkAll spare + 1
  | .agg parts => uptoBulkAll parts + 1
  | .iface _ d => uptoBulk d + 1
  | .map entries => uptoBulkEntries entries + 1
  | .held _ => 1
def uptoBulkAll {H : Type} : List (DataW H) → Nat
  | [] => 0
  | d :: r => uptoBulk d + uptoBulkAll r
def uptoBulkEntries {H : Type} : List (Lit × DataW H) → Nat
  | [] => 0
  | x :: r => uptoBulkEntry x + uptoBulkEntries r
def uptoBulkEntry {H : Type} : Lit × DataW H → Nat
  | (.string bytes, d) => bytes.length + uptoBulk d + 1
  | (_, d) => uptoBulk d + 1
 end
def uptoSmall : (H : Type) → List (DataW H) → Bool := fun _ ds => decide (uptoBulkAll ds ≤ 1048576)
def OpenSpec.upto (s : _root_.Go.ChangeSpec) : _root_.Go.OpenSpec := { _root_.Go.OpenSpec.ofChange s with cond := some uptoSmall }

/-- 'pantrylaw26.ProtoEncodes', WHERE WHAT IT READS IS OF BULK AT MOST 1048576: true; the input reads as it did. -/
def protoEncodesUptoRow : OpenClaim := { program := "ytoblfdloakkmmaa", sum := "0fc3abf0b958aef07a23af3c16aa36dd32f50c5512bf318de21492a01be450ea", func := "pantry/pantrylaw26.ProtoEncodes", spec := "protoEncodes", apart := false, narrowed := true }
def ProtoEncodesUptoSaid : Prop := protoEncodesUptoRow.holds Try.pinned (OpenSpec.upto protoEncodesSpec)

/-- 'pantrylaw26.ProtoBounds', WHERE WHAT IT READS IS OF BULK AT MOST 1048576: true; the input reads as it did. -/
def protoBoundsUptoRow : OpenClaim := { program := "ytoblfdloakkmmaa", sum := "0fc3abf0b958aef07a23af3c16aa36dd32f50c5512bf318de21492a01be450ea", func := "pantry/pantrylaw26.ProtoBounds", spec := "protoBounds", apart := false, narrowed := true }
def ProtoBoundsUptoSaid : Prop := protoBoundsUptoRow.holds Try.pinned (OpenSpec.upto protoBoundsSpec)

/-- 'pantrylaw26.ProtoBack', WHERE WHAT IT READS IS OF BULK AT MOST 1048576: true; the input reads as it did. -/
def protoBackUptoRow : OpenClaim := { program := "ytoblfdloakkmmaa", sum := "0fc3abf0b958aef07a23af3c16aa36dd32f50c5512bf318de21492a01be450ea", func := "pantry/pantrylaw26.ProtoBack", spec := "protoBack", unfollowed := true, recurses := true, apart := false, narrowed := true }
def ProtoBackUptoSaid : Prop := protoBackUptoRow.holds Try.pinned (OpenSpec.upto protoBackSpec)

/-- 'pantrylaw26.ProtoCuts', WHERE WHAT IT READS IS OF BULK AT MOST 1048576: true; the input reads as it did. -/
def protoCutsUptoRow : OpenClaim := { program := "ytoblfdloakkmmaa", sum := "0fc3abf0b958aef07a23af3c16aa36dd32f50c5512bf318de21492a01be450ea", func := "pantry/pantrylaw26.ProtoCuts", spec := "protoCuts", unfollowed := true, recurses := true, apart := false, narrowed := true }
def ProtoCutsUptoSaid : Prop := protoCutsUptoRow.holds Try.pinned (OpenSpec.upto protoCutsSpec)

/-- 'pantrylaw26.ProtoDecodes', WHERE WHAT IT READS IS OF BULK AT MOST 1048576: true; the input reads as it did. -/
def protoDecodesUptoRow : OpenClaim := { program := "ytoblfdloakkmmaa", sum := "0fc3abf0b958aef07a23af3c16aa36dd32f50c5512bf318de21492a01be450ea", func := "pantry/pantrylaw26.ProtoDecodes", spec := "protoDecodes", unfollowed := true, recurses := true, apart := false, narrowed := true }
def ProtoDecodesUptoSaid : Prop := protoDecodesUptoRow.holds Try.pinned (OpenSpec.upto protoDecodesSpec)

/-- 'pantrylaw26.ProtoReplies', WHERE WHAT IT READS IS OF BULK AT MOST 1048576: true; the input reads as it did. -/
def protoRepliesUptoRow : OpenClaim := { program := "ytoblfdloakkmmaa", sum := "0fc3abf0b958aef07a23af3c16aa36dd32f50c5512bf318de21492a01be450ea", func := "pantry/pantrylaw26.ProtoReplies", spec := "protoReplies", unfollowed := true, recurses := true, apart := false, narrowed := true }
def ProtoRepliesUptoSaid : Prop := protoRepliesUptoRow.holds Try.pinned (OpenSpec.upto protoRepliesSpec)

end Rows
end Go.Proofs.Ytoblfdloakkmmaa
