/-
  NARROWER THAN 'FOR EVERY INPUT', by the rows' own cells (each row's printed sentence says how): TreeChecks: loops, laid · TreeFound: loops, laid · TreePlaces: loops, laid · TreePuts: loops, laid · TreeElse: loops, laid · TreeAbove: loops, laid · TreeCounts: loops, laid.
  DERIVED. THE GIVEN ROWS OF THIS SEAT. 7 by the template 'for every input the law returns true; each argument reads behind the call as it read before'; 0 by the template 'total and deterministic' (their statements: YtfnofjcdaghniaaDoorTotals.lean).
  GIVEN WITH THE SEED: the statements are not yours to turn. If you find one false, say at which input.
  Laid BY PROGRAM, IN A SANDBOX (cutbox-rows.mjs): the forced cells as the released guide's own fill.sh prints them over the translation c9ecef4f3b280f0e… (all of the seat's roots in one cut). By AI agents, Wed Nov 11 2026. No macro, syntax, notation, axiom, sorry.
-/
import Derived.Test.YtfnofjcdaghniaaDoorChecked
import GoSem.PinnedTables
import GoSem.Claim
import GoSem.ClaimJoined
import GoSem.ClaimMapViews
import Derived.JoinedTies
import Derived.KernelRfl
namespace Go.Proofs.YtfnofjcdaghniaaDoor
/- THE CELL 'sum', in the pinned program and in every row, IS THE sha256 OF THE DUMP (.gsa) THAT YtfnofjcdaghniaaDoorProg.lean LOADS. Nothing in Lean hashes anything: it is a label: what it is worth is what the hold of that sum in a sandbox is worth. -/
noncomputable def Tryd.pinned : Pinned := { name := "ytfnofjcdaghniaadoor", sum := "c9ecef4f3b280f0edc520b6be5f9fd7bc7914ad6e15ddee5cc37ad66ffd77eba", checked := Tryd.checked }
namespace Rows
def none {H : Type} : Left H := { results := [], args := [] }

/- WHAT THE LISTED PACKAGE-LEVEL VARIABLES READ AS WHEN THE CALL BEGINS. Each datum BY PROGRAM (the guide's laid-datum.mjs) off the statement by which the dump's own 'gosem.cut.vars' lays the variable. In a bare row this is a premise. The card (YtfnofjcdaghniaaDoorCards.lean) ties it to the program's text. -/
def laid_unicode_utf8_acceptRanges {H : Type} : DataW H := .agg [.agg [.lit (.int .u8 128), .lit (.int .u8 191)], .agg [.lit (.int .u8 160), .lit (.int .u8 191)], .agg [.lit (.int .u8 128), .lit (.int .u8 159)], .agg [.lit (.int .u8 144), .lit (.int .u8 191)], .agg [.lit (.int .u8 128), .lit (.int .u8 143)], .agg [.lit (.int .u8 0), .lit (.int .u8 0)], .agg [.lit (.int .u8 0), .lit (.int .u8 0)], .agg [.lit (.int .u8 0), .lit (.int .u8 0)], .agg [.lit (.int .u8 0), .lit (.int .u8 0)], .agg [.lit (.int .u8 0), .lit (.int .u8 0)], .agg [.lit (.int .u8 0), .lit (.int .u8 0)], .agg [.lit (.int .u8 0), .lit (.int .u8 0)], .agg [.lit (.int .u8 0), .lit (.int .u8 0)], .agg [.lit (.int .u8 0), .lit (.int .u8 0)], .agg [.lit (.int .u8 0), .lit (.int .u8 0)], .agg [.lit (.int .u8 0), .lit (.int .u8 0)]]
/-- One of Go's own tables, pinned by name: the form's constant. -/
def laid_unicode_utf8_first : DataW Unit := Go.Pinned.utf8First

/-- 'pantrylaw4.TreeChecks': WHATEVER THE INPUT: true; the input reads as it did. -/
def treeChecksSpec : ChangeSpec := { name := "treeChecks", fn := fun _ => fun
  | [d] => { results := [.lit (.bool true)], args := [d] }
  | _ => none }
def treeChecksRow : OpenClaim := { program := "ytfnofjcdaghniaadoor", sum := "c9ecef4f3b280f0edc520b6be5f9fd7bc7914ad6e15ddee5cc37ad66ffd77eba", func := "pantry/pantrylaw4.TreeChecks", spec := "treeChecks", inPlace := ["internal/bytealg.IndexByteString", "internal/bytealg.CountString", "internal/bytealg.IndexString", "slices.overlaps[string]", "slices.overlaps[pantry/api.Tree]"], unfollowed := true, recurses := true, named := ["unicode/utf8.first", "unicode/utf8.acceptRanges", "internal/bytealg.MaxLen"], loops := true, apart := false, laid := [("unicode/utf8.acceptRanges", laid_unicode_utf8_acceptRanges), ("unicode/utf8.first", laid_unicode_utf8_first)] }
def TreeChecksSaid : Prop := treeChecksRow.holds Tryd.pinned (OpenSpec.ofChange treeChecksSpec)

/-- ITS FALSE NEIGHBOUR: 'it returns false'. Refute it at one input. -/
def treeChecksWrong : ChangeSpec := { name := "treeChecks", fn := fun _ => fun
  | [d] => { results := [.lit (.bool false)], args := [d] }
  | _ => none }
def TreeChecksWrongFalsely : Prop := treeChecksRow.holds Tryd.pinned (OpenSpec.ofChange treeChecksWrong)

/-- 'pantrylaw4.TreeFound': WHATEVER THE INPUT: true; the input reads as it did. -/
def treeFoundSpec : ChangeSpec := { name := "treeFound", fn := fun _ => fun
  | [d1, d2, d3] => { results := [.lit (.bool true)], args := [d1, d2, d3] }
  | _ => none }
def treeFoundRow : OpenClaim := { program := "ytfnofjcdaghniaadoor", sum := "c9ecef4f3b280f0edc520b6be5f9fd7bc7914ad6e15ddee5cc37ad66ffd77eba", func := "pantry/pantrylaw4.TreeFound", spec := "treeFound", inPlace := ["internal/bytealg.IndexByteString", "internal/bytealg.CountString", "internal/bytealg.IndexString", "slices.overlaps[string]", "slices.overlaps[pantry/api.Tree]"], unfollowed := true, recurses := true, named := ["unicode/utf8.first", "unicode/utf8.acceptRanges", "internal/bytealg.MaxLen"], loops := true, apart := false, laid := [("unicode/utf8.acceptRanges", laid_unicode_utf8_acceptRanges), ("unicode/utf8.first", laid_unicode_utf8_first)] }
def TreeFoundSaid : Prop := treeFoundRow.holds Tryd.pinned (OpenSpec.ofChange treeFoundSpec)

/-- ITS FALSE NEIGHBOUR: 'it returns false'. Refute it at one input. -/
def treeFoundWrong : ChangeSpec := { name := "treeFound", fn := fun _ => fun
  | [d1, d2, d3] => { results := [.lit (.bool false)], args := [d1, d2, d3] }
  | _ => none }
def TreeFoundWrongFalsely : Prop := treeFoundRow.holds Tryd.pinned (OpenSpec.ofChange treeFoundWrong)

/-- 'pantrylaw4.TreePlaces': WHATEVER THE INPUT: true; the input reads as it did. -/
def treePlacesSpec : ChangeSpec := { name := "treePlaces", fn := fun _ => fun
  | [d1, d2] => { results := [.lit (.bool true)], args := [d1, d2] }
  | _ => none }
def treePlacesRow : OpenClaim := { program := "ytfnofjcdaghniaadoor", sum := "c9ecef4f3b280f0edc520b6be5f9fd7bc7914ad6e15ddee5cc37ad66ffd77eba", func := "pantry/pantrylaw4.TreePlaces", spec := "treePlaces", inPlace := ["internal/bytealg.IndexByteString", "internal/bytealg.CountString", "internal/bytealg.IndexString", "slices.overlaps[string]", "slices.overlaps[pantry/api.Tree]"], unfollowed := true, recurses := true, named := ["unicode/utf8.first", "unicode/utf8.acceptRanges", "internal/bytealg.MaxLen"], loops := true, apart := false, laid := [("unicode/utf8.acceptRanges", laid_unicode_utf8_acceptRanges), ("unicode/utf8.first", laid_unicode_utf8_first)] }
def TreePlacesSaid : Prop := treePlacesRow.holds Tryd.pinned (OpenSpec.ofChange treePlacesSpec)

/-- ITS FALSE NEIGHBOUR: 'it returns false'. Refute it at one input. -/
def treePlacesWrong : ChangeSpec := { name := "treePlaces", fn := fun _ => fun
  | [d1, d2] => { results := [.lit (.bool false)], args := [d1, d2] }
  | _ => none }
def TreePlacesWrongFalsely : Prop := treePlacesRow.holds Tryd.pinned (OpenSpec.ofChange treePlacesWrong)

/-- 'pantrylaw4.TreePuts': WHATEVER THE INPUT: true; the input reads as it did. -/
def treePutsSpec : ChangeSpec := { name := "treePuts", fn := fun _ => fun
  | [d1, d2, d3] => { results := [.lit (.bool true)], args := [d1, d2, d3] }
  | _ => none }
def treePutsRow : OpenClaim := { program := "ytfnofjcdaghniaadoor", sum := "c9ecef4f3b280f0edc520b6be5f9fd7bc7914ad6e15ddee5cc37ad66ffd77eba", func := "pantry/pantrylaw4.TreePuts", spec := "treePuts", inPlace := ["internal/bytealg.IndexByteString", "internal/bytealg.CountString", "internal/bytealg.IndexString", "slices.overlaps[string]", "slices.overlaps[pantry/api.Tree]"], unfollowed := true, recurses := true, named := ["unicode/utf8.first", "unicode/utf8.acceptRanges", "internal/bytealg.MaxLen"], loops := true, apart := false, laid := [("unicode/utf8.acceptRanges", laid_unicode_utf8_acceptRanges), ("unicode/utf8.first", laid_unicode_utf8_first)] }
def TreePutsSaid : Prop := treePutsRow.holds Tryd.pinned (OpenSpec.ofChange treePutsSpec)

/-- ITS FALSE NEIGHBOUR: 'it returns false'. Refute it at one input. -/
def treePutsWrong : ChangeSpec := { name := "treePuts", fn := fun _ => fun
  | [d1, d2, d3] => { results := [.lit (.bool false)], args := [d1, d2, d3] }
  | _ => none }
def TreePutsWrongFalsely : Prop := treePutsRow.holds Tryd.pinned (OpenSpec.ofChange treePutsWrong)

/-- 'pantrylaw4.TreeElse': WHATEVER THE INPUT: true; the input reads as it did. -/
def treeElseSpec : ChangeSpec := { name := "treeElse", fn := fun _ => fun
  | [d1, d2, d3, d4] => { results := [.lit (.bool true)], args := [d1, d2, d3, d4] }
  | _ => none }
def treeElseRow : OpenClaim := { program := "ytfnofjcdaghniaadoor", sum := "c9ecef4f3b280f0edc520b6be5f9fd7bc7914ad6e15ddee5cc37ad66ffd77eba", func := "pantry/pantrylaw4.TreeElse", spec := "treeElse", inPlace := ["internal/bytealg.IndexByteString", "internal/bytealg.CountString", "internal/bytealg.IndexString", "slices.overlaps[string]", "slices.overlaps[pantry/api.Tree]"], unfollowed := true, recurses := true, named := ["unicode/utf8.first", "unicode/utf8.acceptRanges", "internal/bytealg.MaxLen"], loops := true, apart := false, laid := [("unicode/utf8.acceptRanges", laid_unicode_utf8_acceptRanges), ("unicode/utf8.first", laid_unicode_utf8_first)] }
def TreeElseSaid : Prop := treeElseRow.holds Tryd.pinned (OpenSpec.ofChange treeElseSpec)

/-- ITS FALSE NEIGHBOUR: 'it returns false'. Refute it at one input. -/
def treeElseWrong : ChangeSpec := { name := "treeElse", fn := fun _ => fun
  | [d1, d2, d3, d4] => { results := [.lit (.bool false)], args := [d1, d2, d3, d4] }
  | _ => none }
def TreeElseWrongFalsely : Prop := treeElseRow.holds Tryd.pinned (OpenSpec.ofChange treeElseWrong)

/-- 'pantrylaw4.TreeAbove': WHATEVER THE INPUT: true; the input reads as it did. -/
def treeAboveSpec : ChangeSpec := { name := "treeAbove", fn := fun _ => fun
  | [d1, d2, d3] => { results := [.lit (.bool true)], args := [d1, d2, d3] }
  | _ => none }
def treeAboveRow : OpenClaim := { program := "ytfnofjcdaghniaadoor", sum := "c9ecef4f3b280f0edc520b6be5f9fd7bc7914ad6e15ddee5cc37ad66ffd77eba", func := "pantry/pantrylaw4.TreeAbove", spec := "treeAbove", inPlace := ["internal/bytealg.IndexByteString", "internal/bytealg.CountString", "internal/bytealg.IndexString", "slices.overlaps[string]", "slices.overlaps[pantry/api.Tree]"], unfollowed := true, recurses := true, named := ["unicode/utf8.first", "unicode/utf8.acceptRanges", "internal/bytealg.MaxLen"], loops := true, apart := false, laid := [("unicode/utf8.acceptRanges", laid_unicode_utf8_acceptRanges), ("unicode/utf8.first", laid_unicode_utf8_first)] }
def TreeAboveSaid : Prop := treeAboveRow.holds Tryd.pinned (OpenSpec.ofChange treeAboveSpec)

/-- ITS FALSE NEIGHBOUR: 'it returns false'. Refute it at one input. -/
def treeAboveWrong : ChangeSpec := { name := "treeAbove", fn := fun _ => fun
  | [d1, d2, d3] => { results := [.lit (.bool false)], args := [d1, d2, d3] }
  | _ => none }
def TreeAboveWrongFalsely : Prop := treeAboveRow.holds Tryd.pinned (OpenSpec.ofChange treeAboveWrong)

/-- 'pantrylaw4.TreeCounts': WHATEVER THE INPUT: true; the input reads as it did. -/
def treeCountsSpec : ChangeSpec := { name := "treeCounts", fn := fun _ => fun
  | [d1, d2] => { results := [.lit (.bool true)], args := [d1, d2] }
  | _ => none }
def treeCountsRow : OpenClaim := { program := "ytfnofjcdaghniaadoor", sum := "c9ecef4f3b280f0edc520b6be5f9fd7bc7914ad6e15ddee5cc37ad66ffd77eba", func := "pantry/pantrylaw4.TreeCounts", spec := "treeCounts", inPlace := ["internal/bytealg.IndexByteString", "internal/bytealg.CountString", "internal/bytealg.IndexString", "slices.overlaps[string]", "slices.overlaps[pantry/api.Tree]"], unfollowed := true, recurses := true, named := ["unicode/utf8.first", "unicode/utf8.acceptRanges", "internal/bytealg.MaxLen"], loops := true, apart := false, laid := [("unicode/utf8.acceptRanges", laid_unicode_utf8_acceptRanges), ("unicode/utf8.first", laid_unicode_utf8_first)] }
def TreeCountsSaid : Prop := treeCountsRow.holds Tryd.pinned (OpenSpec.ofChange treeCountsSpec)

/-- ITS FALSE NEIGHBOUR: 'it returns false'. Refute it at one input. -/
def treeCountsWrong : ChangeSpec := { name := "treeCounts", fn := fun _ => fun
  | [d1, d2] => { results := [.lit (.bool false)], args := [d1, d2] }
  | _ => none }
def TreeCountsWrongFalsely : Prop := treeCountsRow.holds Tryd.pinned (OpenSpec.ofChange treeCountsWrong)

/- THE SECOND FORM. 'bulk': how many values and letters a reading holds, each counted each time it is reached (what is shared counts as often as it is met; a slice's spare places count too). A statement '..UptoSaid' is the law's where the arguments, and the package variables that the reading takes, are together of bulk at most 1048576: NARROWER than '..Said'. Prove '..Said' where nothing that the law and all that it calls make is longer than what came in: it says more and counts as full. Else prove '..UptoSaid'. A law counts once. -/
mutual
def uptoBulk {H : Type} : DataW H → Nat
  | .lit (.string bytes) => bytes.length + 1
  | .lit _ => 1
  | .nil => 1
  | .ptr d => uptoBulk d + 1
  | .slice elems spare => uptoBulkAll elems + uptoBulkAll spare + 1
  | .agg parts => uptoBulkAll parts + 1
  | .iface _ d => uptoBulk d + 1
  | .map entries => uptoBulkEntries entries + 1
  | .held _ => 1
def uptoBulkAll {H : Type} : List (DataW H) → Nat
  | [] => 0
  | d :: r => uptoBulk d + uptoBulkAll r
def uptoBulkEntries {H : Type} : List (Lit × DataW H) → Nat
  | [] => 0
  | x :: r => uptoBulkEntry x + uptoBulkEntries r
def uptoBulkEntry {H : Type} : Lit × DataW H → Nat
  | (.string bytes, d) => bytes.length + uptoBulk d + 1
  | (_, d) => uptoBulk d + 1
 end
def uptoSmall : (H : Type) → List (DataW H) → Bool := fun _ ds => decide (uptoBulkAll ds ≤ 1048576)
def OpenSpec.upto (s : _root_.Go.ChangeSpec) : _root_.Go.OpenSpec := { _root_.Go.OpenSpec.ofChange s with cond := some uptoSmall }

/-- 'pantrylaw4.TreeChecks', WHERE WHAT IT READS IS OF BULK AT MOST 1048576: true; the input reads as it did. -/
def treeChecksUptoRow : OpenClaim := { program := "ytfnofjcdaghniaadoor", sum := "c9ecef4f3b280f0edc520b6be5f9fd7bc7914ad6e15ddee5cc37ad66ffd77eba", func := "pantry/pantrylaw4.TreeChecks", spec := "treeChecks", inPlace := ["internal/bytealg.IndexByteString", "internal/bytealg.CountString", "internal/bytealg.IndexString", "slices.overlaps[string]", "slices.overlaps[pantry/api.Tree]"], unfollowed := true, recurses := true, named := ["unicode/utf8.first", "unicode/utf8.acceptRanges", "internal/bytealg.MaxLen"], loops := true, apart := false, laid := [("unicode/utf8.acceptRanges", laid_unicode_utf8_acceptRanges), ("unicode/utf8.first", laid_unicode_utf8_first)], narrowed := true }
def TreeChecksUptoSaid : Prop := treeChecksUptoRow.holds Tryd.pinned (OpenSpec.upto treeChecksSpec)

/-- 'pantrylaw4.TreeFound', WHERE WHAT IT READS IS OF BULK AT MOST 1048576: true; the input reads as it did. -/
def treeFoundUptoRow : OpenClaim := { program := "ytfnofjcdaghniaadoor", sum := "c9ecef4f3b280f0edc520b6be5f9fd7bc7914ad6e15ddee5cc37ad66ffd77eba", func := "pantry/pantrylaw4.TreeFound", spec := "treeFound", inPlace := ["internal/bytealg.IndexByteString", "internal/bytealg.CountString", "internal/bytealg.IndexString", "slices.overlaps[string]", "slices.overlaps[pantry/api.Tree]"], unfollowed := true, recurses := true, named := ["unicode/utf8.first", "unicode/utf8.acceptRanges", "internal/bytealg.MaxLen"], loops := true, apart := false, laid := [("unicode/utf8.acceptRanges", laid_unicode_utf8_acceptRanges), ("unicode/utf8.first", laid_unicode_utf8_first)], narrowed := true }
def TreeFoundUptoSaid : Prop := treeFoundUptoRow.holds Tryd.pinned (OpenSpec.upto treeFoundSpec)

/-- 'pantrylaw4.TreePlaces', WHERE WHAT IT READS IS OF BULK AT MOST 1048576: true; the input reads as it did. -/
def treePlacesUptoRow : OpenClaim := { program := "ytfnofjcdaghniaadoor", sum := "c9ecef4f3b280f0edc520b6be5f9fd7bc7914ad6e15ddee5cc37ad66ffd77eba", func := "pantry/pantrylaw4.TreePlaces", spec := "treePlaces", inPlace := ["internal/bytealg.IndexByteString", "internal/bytealg.CountString", "internal/bytealg.IndexString", "slices.overlaps[string]", "slices.overlaps[pantry/api.Tree]"], unfollowed := true, recurses := true, named := ["unicode/utf8.first", "unicode/utf8.acceptRanges", "internal/bytealg.MaxLen"], loops := true, apart := false, laid := [("unicode/utf8.acceptRanges", laid_unicode_utf8_acceptRanges), ("unicode/utf8.first", laid_unicode_utf8_first)], narrowed := true }
def TreePlacesUptoSaid : Prop := treePlacesUptoRow.holds Tryd.pinned (OpenSpec.upto treePlacesSpec)

/-- 'pantrylaw4.TreePuts', WHERE WHAT IT READS IS OF BULK AT MOST 1048576: true; the input reads as it did. -/
def treePutsUptoRow : OpenClaim := { program := "ytfnofjcdaghniaadoor", sum := "c9ecef4f3b280f0edc520b6be5f9fd7bc7914ad6e15ddee5cc37ad66ffd77eba", func := "pantry/pantrylaw4.TreePuts", spec := "treePuts", inPlace := ["internal/bytealg.IndexByteString", "internal/bytealg.CountString", "internal/bytealg.IndexString", "slices.overlaps[string]", "slices.overlaps[pantry/api.Tree]"], unfollowed := true, recurses := true, named := ["unicode/utf8.first", "unicode/utf8.acceptRanges", "internal/bytealg.MaxLen"], loops := true, apart := false, laid := [("unicode/utf8.acceptRanges", laid_unicode_utf8_acceptRanges), ("unicode/utf8.first", laid_unicode_utf8_first)], narrowed := true }
def TreePutsUptoSaid : Prop := treePutsUptoRow.holds Tryd.pinned (OpenSpec.upto treePutsSpec)

/-- 'pantrylaw4.TreeElse', WHERE WHAT IT READS IS OF BULK AT MOST 1048576: true; the input reads as it did. -/
def treeElseUptoRow : OpenClaim := { program := "ytfnofjcdaghniaadoor", sum := "c9ecef4f3b280f0edc520b6be5f9fd7bc7914ad6e15ddee5cc37ad66ffd77eba", func := "pantry/pantrylaw4.TreeElse", spec := "treeElse", inPlace := ["internal/bytealg.IndexByteString", "internal/bytealg.CountString", "internal/bytealg.IndexString", "slices.overlaps[string]", "slices.overlaps[pantry/api.Tree]"], unfollowed := true, recurses := true, named := ["unicode/utf8.first", "unicode/utf8.acceptRanges", "internal/bytealg.MaxLen"], loops := true, apart := false, laid := [("unicode/utf8.acceptRanges", laid_unicode_utf8_acceptRanges), ("unicode/utf8.first", laid_unicode_utf8_first)], narrowed := true }
def TreeElseUptoSaid : Prop := treeElseUptoRow.holds Tryd.pinned (OpenSpec.upto treeElseSpec)

/-- 'pantrylaw4.TreeAbove', WHERE WHAT IT READS IS OF BULK AT MOST 1048576: true; the input reads as it did. -/
def treeAboveUptoRow : OpenClaim := { program := "ytfnofjcdaghniaadoor", sum := "c9ecef4f3b280f0edc520b6be5f9fd7bc7914ad6e15ddee5cc37ad66ffd77eba", func := "pantry/pantrylaw4.TreeAbove", spec := "treeAbove", inPlace := ["internal/bytealg.IndexByteString", "internal/bytealg.CountString", "internal/bytealg.IndexString", "slices.overlaps[string]", "slices.overlaps[pantry/api.Tree]"], unfollowed := true, recurses := true, named := ["unicode/utf8.first", "unicode/utf8.acceptRanges", "internal/bytealg.MaxLen"], loops := true, apart := false, laid := [("unicode/utf8.acceptRanges", laid_unicode_utf8_acceptRanges), ("unicode/utf8.first", laid_unicode_utf8_first)], narrowed := true }
def TreeAboveUptoSaid : Prop := treeAboveUptoRow.holds Tryd.pinned (OpenSpec.upto treeAboveSpec)

/-- 'pantrylaw4.TreeCounts', WHERE WHAT IT READS IS OF BULK AT MOST 1048576: true; the input reads as it did. -/
def treeCountsUptoRow : OpenClaim := { program := "ytfnofjcdaghniaadoor", sum := "c9ecef4f3b280f0edc520b6be5f9fd7bc7914ad6e15ddee5cc37ad66ffd77eba", func := "pantry/pantrylaw4.TreeCounts", spec := "treeCounts", inPlace := ["internal/bytealg.IndexByteString", "internal/bytealg.CountString", "internal/bytealg.IndexString", "slices.overlaps[string]", "slices.overlaps[pantry/api.Tree]"], unfollowed := true, recurses := true, named := ["unicode/utf8.first", "unicode/utf8.acceptRanges", "internal/bytealg.MaxLen"], loops := true, apart := false, laid := [("unicode/utf8.acceptRanges", laid_unicode_utf8_acceptRanges), ("unicode/utf8.first", laid_unicode_utf8_first)], narrowed := true }
def TreeCountsUptoSaid : Prop := treeCountsUptoRow.holds Tryd.pinned (OpenSpec.upto treeCountsSpec)

end Rows
end Go.Proofs.YtfnofjcdaghniaaDoor
